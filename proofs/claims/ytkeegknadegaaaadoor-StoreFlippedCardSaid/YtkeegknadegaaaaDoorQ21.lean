-- Written by a program of this session (a patched print) for this claim; Lean checks it.
import Derived.Test.YtkeegknadegaaaaDoorQ0
import Derived.Test.YtkeegknadegaaaaDoorHRep
import Derived.Test.YtkeegknadegaaaaDoorHApp
import Derived.Test.YtkeegknadegaaaaDoorQ7
namespace Go.Proofs.YtkeegknadegaaaaDoor.Q
open Go.RowKit Go.Proofs.YtkeegknadegaaaaDoorW.PrintWords Go.Proofs.YtkeegknadegaaaaDoorW.PrintLast Go.Proofs.YtkeegknadegaaaaDoorW.PrintMore
attribute [local go_sem] max2_int min2_int max_two min_two max_three min_three max_four min_four   -- for this text's walks alone
set_option linter.unusedVariables false
set_option linter.unusedSimpArgs false

/-! ### zigguratref30_Made: function 21 -/
mutual
def zigguratref30_Made.l0 : Nat → List (S24) → Int → List (S24) → Int → Option ((List (S24)))
  | 0, _, _, _, _ => none
  | k + 1, x0, x1, x5, x6 => if x6 < (x0.length : Int) then (zigguratref30_Made.j1 k x0 x1 x5 x6 (decide (x6 < x1))) else (zigguratref30_Made.j1 k x0 x1 x5 x6 false)
def zigguratref30_Made.j1 : Nat → List (S24) → Int → List (S24) → Int → Bool → Option ((List (S24)))
  | 0, _, _, _, _, _ => none
  | k + 1, x0, x1, x5, x6, x17 => if x17 = true then (if 0 ≤ x6 then (if x6 < (x0.length : Int) then (if (((rd_T24 x0 x6).f0).size : Int) = 0 then (if 0 ≤ (mn 1 20) then (if (mn 1 20) ≤ 1 then (if 0 ≤ (mn (((rd_T24 x0 x6).f1).size : Int) 200) then (if (mn (((rd_T24 x0 x6).f1).size : Int) 200) ≤ (((rd_T24 x0 x6).f1).size : Int) then (if x5.length < 4398046511104 then (zigguratref30_Made.l0 k x0 x1 (x5 ++ [(⟨(⟨#[120]⟩ : ByteArray).extract 0 ((mn 1 20) : Int).toNat, ((rd_T24 x0 x6).f1).extract 0 ((mn (((rd_T24 x0 x6).f1).size : Int) 200) : Int).toNat⟩ : S24)]) (wrap64 (x6 + 1))) else (none)) else (none)) else (none)) else (none)) else (none)) else (if 0 ≤ (mn (((rd_T24 x0 x6).f0).size : Int) 20) then (if (mn (((rd_T24 x0 x6).f0).size : Int) 20) ≤ (((rd_T24 x0 x6).f0).size : Int) then (if 0 ≤ (mn (((rd_T24 x0 x6).f1).size : Int) 200) then (if (mn (((rd_T24 x0 x6).f1).size : Int) 200) ≤ (((rd_T24 x0 x6).f1).size : Int) then (if x5.length < 4398046511104 then (zigguratref30_Made.l0 k x0 x1 (x5 ++ [(⟨((rd_T24 x0 x6).f0).extract 0 ((mn (((rd_T24 x0 x6).f0).size : Int) 20) : Int).toNat, ((rd_T24 x0 x6).f1).extract 0 ((mn (((rd_T24 x0 x6).f1).size : Int) 200) : Int).toNat⟩ : S24)]) (wrap64 (x6 + 1))) else (none)) else (none)) else (none)) else (none)) else (none))) else (none)) else (none)) else (some x5)
end
def zigguratref30_Made.f (k : Nat) (l0 : List (S24)) (a1 : Int) : Option ((List (S24))) := zigguratref30_Made.l0 k l0 a1 (([] : List (S24))) 0
theorem zigguratref30_Made.mono_l : ∀ k, (∀ y0 y1 y2 y3, LeO (zigguratref30_Made.l0 k y0 y1 y2 y3) (zigguratref30_Made.l0 (k + 1) y0 y1 y2 y3)) ∧ (∀ y0 y1 y2 y3 y4, LeO (zigguratref30_Made.j1 k y0 y1 y2 y3 y4) (zigguratref30_Made.j1 (k + 1) y0 y1 y2 y3 y4))
  | 0 => ⟨fun _ _ _ _ r h => by simp [zigguratref30_Made.l0] at h, fun _ _ _ _ _ r h => by simp [zigguratref30_Made.j1] at h⟩
  | k + 1 => by
    obtain ⟨ih0, ih1⟩ := zigguratref30_Made.mono_l k
    refine ⟨?_, ?_⟩
    · intro y0 y1 y2 y3
      unfold zigguratref30_Made.l0
      repeat' first
      | (with_reducible exact ih0 _ _ _ _)
      | (with_reducible exact ih1 _ _ _ _ _)
      | (with_reducible exact LeO.refl _)
      | (with_reducible exact LeO.none _)
      | (with_reducible refine LeO.ite ?_ ?_)
      | (with_reducible refine LeO.bind ?_ (fun _ => ?_))
      | exact ih0 _ _ _ _
      | exact ih1 _ _ _ _ _
      | exact LeO.none _
      | refine LeO.ite ?_ ?_
      | refine LeO.bind ?_ (fun _ => ?_)
    · intro y0 y1 y2 y3 y4
      unfold zigguratref30_Made.j1
      repeat' first
      | (with_reducible exact ih0 _ _ _ _)
      | (with_reducible exact ih1 _ _ _ _ _)
      | (with_reducible exact LeO.refl _)
      | (with_reducible exact LeO.none _)
      | (with_reducible refine LeO.ite ?_ ?_)
      | (with_reducible refine LeO.bind ?_ (fun _ => ?_))
      | exact ih0 _ _ _ _
      | exact ih1 _ _ _ _ _
      | exact LeO.none _
      | refine LeO.ite ?_ ?_
      | refine LeO.bind ?_ (fun _ => ?_)
theorem zigguratref30_Made.mono : ∀ a0 a1 k, LeO (zigguratref30_Made.f k a0 a1) (zigguratref30_Made.f (k + 1) a0 a1) := by
  intro a0 a1 k
  obtain ⟨ih0, ih1⟩ := zigguratref30_Made.mono_l k
  unfold zigguratref30_Made.f
  repeat' first
      | (with_reducible exact ih0 _ _ _ _)
      | (with_reducible exact ih1 _ _ _ _ _)
      | (with_reducible exact LeO.refl _)
      | (with_reducible exact LeO.none _)
      | (with_reducible refine LeO.ite ?_ ?_)
      | (with_reducible refine LeO.bind ?_ (fun _ => ?_))
      | exact ih0 _ _ _ _
      | exact ih1 _ _ _ _ _
      | exact LeO.none _
      | refine LeO.ite ?_ ?_
      | refine LeO.bind ?_ (fun _ => ?_)
set_option maxHeartbeats 8000000 in
set_option maxRecDepth 100000 in
theorem zigguratref30_Made.calls (k : Nat) (A0 : Option Addr) (c0 : Nat) (l0 : List (S24)) (a1 : Int) (r : List (S24)) (w : World) (hr0 : Kd.C k24 w A0 l0.length l0) (hc0 : l0.length ≤ c0) (h : zigguratref30_Made.f k l0 a1 = some r) :
    Calls Tryd.prog 21 #[.slice A0 l0.length c0, .int .i64 a1] w fun e w' => ∃ v0_ : Value, e = .returned (v0_) ∧ Kd.R k24 24 w' w.heap.size (fun _ => True) v0_ r ∧ Below w.heap.size w w' := by
  have hu24 := Tryd.underlying24
  have HR0 := Aside0.mk hr0
  have HC0 := Aside0.mk hc0
  clear hr0 hc0
  have HB := Aside0.mk (Below.refl w.heap.size w)
  have H : (zigguratref30_Made.l0 k l0 a1 (([] : List (S24))) 0) = some r := h
  clear h
  obtain ⟨y221, hy221⟩ : ∃ y_ : List (S24), y_ = (([] : List (S24))) := ⟨_, rfl⟩
  replace H : (zigguratref30_Made.l0 k l0 a1 y221 0) = some r := by first | (rw [hy221]; with_reducible exact H) | (have H2_ := (Option.bind_some _ _).symm.trans H; rw [hy221]; with_reducible exact H2_) | (have H2_ := (Option.bind_some _ _).symm.trans H; with_reducible exact H2_) | with_reducible exact H | (rw [hy221]; exact H) | exact H
  have Ny221 := Aside0.mk hy221
  clear hy221
  have H' := Aside0.mk H
  clear H
  go_enter Tryd.func21, Tryd.ntmps21
  go_wp2_with (first | ((with_reducible refine gate_dst (N := 8) rfl ?_); refine Kd.R_lit k24 _ 24 ?hg (N := 8) ?hd (xs := ([] : List (S24))) (inner := []) (ok := fun _ => True) (okp := fun _ => True) ?hr ?hp (fun _ hk => hk) trivial (Below.refl _ _) (Nat.le_refl _) (by simp) ?_; (case hd => rfl); (case hg => rfl); (case hr => first | (go_simp; done) | (go_simp; rfl)); (case hp => exact (Reps.none _ _)); intro v222 w3 ho4 hb hg_ hnew_; clear hg_ hnew_; (first | rw [← Ny221.out] at ho4 | (simp only [Int.reduceToNat] at ho4; rw [← Ny221.out] at ho4)); have n0_ := Aside0.mk (Kd.R_lower ho4 (below_size (by repeat (first | (with_reducible first | exact HB.out | apply below_alloc | apply pw_below_drewN | apply below_drew1) | exact HB.out)))); have n1_ := Aside0.mk (below_step (by repeat (first | (with_reducible first | exact HB.out | apply below_alloc | apply pw_below_drewN | apply below_drew1) | exact HB.out)) hb); clear HB; have HO223 := n0_; have HB := n1_; clear n0_ n1_; clear hb ho4))
  go_loopg [5, 6] k (fun kq v5 v6 w' => ∃ (x5_1 : List (S24)) (x6_1 : Int), v6 = .int .i64 x6_1 ∧ Aside0 (zigguratref30_Made.l0 kq l0 a1 x5_1 x6_1 = some r) ∧ Aside0 (kq ≤ k) ∧ Aside0 (Kd.R k24 24 w' w.heap.size (fun _ => True) v5 x5_1) ∧ Aside0 (Below w.heap.size w w'))
  case atStart => exact ⟨(y221), (0), (by first | rfl | (simp; done) | (simp [*]; done)), H', ⟨Nat.le_refl _⟩, ⟨by (with_reducible repeat (first | apply Kd.R_alloc | apply Kd.R_drewN | apply Kd.R_drew)); exact HO223.out⟩, ⟨by repeat (first | (with_reducible first | exact HB.out | apply below_alloc | apply pw_below_drewN | apply below_drew1) | exact HB.out)⟩⟩
  case round =>
    clear H'
    try clear c2
    try clear p2
    obtain ⟨x5_1, x6_1, rfl, HA, HK1, HO_5, HB⟩ := hrel
    cases gk with
    | zero => exact absurd HA.out (by simp [zigguratref30_Made.l0])
    | succ k1 =>
      have H := HA.out
      clear HA
      simp only [zigguratref30_Made.l0] at H
      have HC5 := Aside0.mk H
      clear H
      go_upto_region 3 with (fail)
      go_cut [17] (fun v17 wc => ∃ (kq : Nat) (x17_4 : Bool), v17 = .bool x17_4 ∧ Aside0 (zigguratref30_Made.j1 kq l0 a1 x5_1 x6_1 x17_4 = some r) ∧ Aside0 (kq ≤ k1) ∧ Aside0 (Kd.R k24 24 wc w.heap.size (fun _ => True) u5 x5_1) ∧ Aside0 (Below w.heap.size w wc))
      case first =>
        have H := HC5.out
        clear HC5
        by_cases c6 : x6_1 < (l0.length : Int)
        · rw [if_pos c6] at H
          have c6b0 : decide (x6_1 < (l0.length : Int)) = true := decide_eq_true c6
          clear c6
          (first | rw [c6b0] | (simp only [i64_w, i32_w]; rw [c6b0]) | skip)
          have H' := Aside0.mk H
          clear H
          go_wp2
          go_meet
          case rel => exact ⟨_, (decide (x6_1 < a1)), (by first | rfl | (simp; done) | (simp [*]; done)), (by first | exact H' | (subst_vars; exact H')), ⟨by have := HK1.out; first | omega | exact Nat.le_refl _⟩, ⟨by (with_reducible repeat (first | apply Kd.R_alloc | apply Kd.R_drewN | apply Kd.R_drew)); exact HO_5.out⟩, ⟨by repeat (first | (with_reducible first | exact HB.out | apply below_alloc | apply pw_below_drewN | apply below_drew1) | exact HB.out)⟩⟩
        · rw [if_neg c6] at H
          have c6b0 : decide (x6_1 < (l0.length : Int)) = false := decide_eq_false c6
          clear c6
          (first | rw [c6b0] | (simp only [i64_w, i32_w]; rw [c6b0]) | skip)
          have H' := Aside0.mk H
          clear H
          go_wp2
          go_meet
          case rel => exact ⟨_, (false), (by first | rfl | (simp; done) | (simp [*]; done)), (by first | exact H' | (subst_vars; exact H')), ⟨by have := HK1.out; first | omega | exact Nat.le_refl _⟩, ⟨by (with_reducible repeat (first | apply Kd.R_alloc | apply Kd.R_drewN | apply Kd.R_drew)); exact HO_5.out⟩, ⟨by repeat (first | (with_reducible first | exact HB.out | apply below_alloc | apply pw_below_drewN | apply below_drew1) | exact HB.out)⟩⟩
      case rest =>
        clear HC5
        try clear c2
        try clear p2
        try clear c6
        try clear c6b0
        try clear p2
        obtain ⟨kq, x17_4, rfl, HA, HJ4, HO_5, HB⟩ := hcut
        cases kq with
        | zero => exact absurd HA.out (by simp [zigguratref30_Made.j1])
        | succ kj4 =>
          have H := HA.out
          clear HA
          simp only [zigguratref30_Made.j1] at H
          by_cases c7 : x17_4 = true
          · subst c7
            have H1 : (if 0 ≤ x6_1 then (if x6_1 < (l0.length : Int) then (if (((rd_T24 l0 x6_1).f0).size : Int) = 0 then (if 0 ≤ (mn 1 20) then (if (mn 1 20) ≤ 1 then (if 0 ≤ (mn (((rd_T24 l0 x6_1).f1).size : Int) 200) then (if (mn (((rd_T24 l0 x6_1).f1).size : Int) 200) ≤ (((rd_T24 l0 x6_1).f1).size : Int) then (if x5_1.length < 4398046511104 then (zigguratref30_Made.l0 kj4 l0 a1 (x5_1 ++ [(⟨(⟨#[120]⟩ : ByteArray).extract 0 ((mn 1 20) : Int).toNat, ((rd_T24 l0 x6_1).f1).extract 0 ((mn (((rd_T24 l0 x6_1).f1).size : Int) 200) : Int).toNat⟩ : S24)]) (wrap64 (x6_1 + 1))) else (none)) else (none)) else (none)) else (none)) else (none)) else (if 0 ≤ (mn (((rd_T24 l0 x6_1).f0).size : Int) 20) then (if (mn (((rd_T24 l0 x6_1).f0).size : Int) 20) ≤ (((rd_T24 l0 x6_1).f0).size : Int) then (if 0 ≤ (mn (((rd_T24 l0 x6_1).f1).size : Int) 200) then (if (mn (((rd_T24 l0 x6_1).f1).size : Int) 200) ≤ (((rd_T24 l0 x6_1).f1).size : Int) then (if x5_1.length < 4398046511104 then (zigguratref30_Made.l0 kj4 l0 a1 (x5_1 ++ [(⟨((rd_T24 l0 x6_1).f0).extract 0 ((mn (((rd_T24 l0 x6_1).f0).size : Int) 20) : Int).toNat, ((rd_T24 l0 x6_1).f1).extract 0 ((mn (((rd_T24 l0 x6_1).f1).size : Int) 200) : Int).toNat⟩ : S24)]) (wrap64 (x6_1 + 1))) else (none)) else (none)) else (none)) else (none)) else (none))) else (none)) else (none)) = some r := by rw [if_pos rfl] at H; exact H
            clear H
            have H := H1
            clear H1
            by_cases c8 : 0 ≤ x6_1
            · rw [if_pos c8] at H
              have c8b0 : decide (0 ≤ x6_1) = true := decide_eq_true c8
              clear c8
              by_cases c9 : x6_1 < (l0.length : Int)
              · rw [if_pos c9] at H
                have c9b0 : decide (x6_1 < (l0.length : Int)) = true := decide_eq_true c9
                clear c9
                by_cases c10 : (((rd_T24 l0 x6_1).f0).size : Int) = 0
                · rw [if_pos c10] at H
                  have c10b0 : ((((rd_T24 l0 x6_1).f0).size : Int) == 0) = true := beq_iff_eq.mpr c10
                  have c10b1 : ((((rd_T24 l0 x6_1).f0).size : Int) != 0) = false := bne_eq_false_iff_eq.mpr c10
                  clear c10
                  have hm1_ : mn 1 20 = 1 := by decide
                  replace H : (if 0 ≤ (1) then (if (1) ≤ 1 then (if 0 ≤ (mn (((rd_T24 l0 x6_1).f1).size : Int) 200) then (if (mn (((rd_T24 l0 x6_1).f1).size : Int) 200) ≤ (((rd_T24 l0 x6_1).f1).size : Int) then (if x5_1.length < 4398046511104 then (zigguratref30_Made.l0 kj4 l0 a1 (x5_1 ++ [(⟨(⟨#[120]⟩ : ByteArray).extract 0 ((1) : Int).toNat, ((rd_T24 l0 x6_1).f1).extract 0 ((mn (((rd_T24 l0 x6_1).f1).size : Int) 200) : Int).toNat⟩ : S24)]) (wrap64 (x6_1 + 1))) else (none)) else (none)) else (none)) else (none)) else (none)) = some r := by rw [hm1_] at H; exact H







                  by_cases c12 : 0 ≤ (1)
                  · rw [if_pos c12] at H
                    have c12b0 := eq_true c12
                    have c12b1 : decide (0 ≤ (1)) = true := decide_eq_true c12
                    clear c12
                    by_cases c13 : (1) ≤ 1
                    · rw [if_pos c13] at H
                      have c13b0 := eq_true c13
                      have c13b1 : decide ((1) ≤ 1) = true := decide_eq_true c13
                      clear c13
                      obtain ⟨ji14, hji14⟩ : ∃ j_ : Int, (mn (((rd_T24 l0 x6_1).f1).size : Int) 200) = j_ := ⟨_, rfl⟩
                      replace H : (if 0 ≤ (ji14) then (if (ji14) ≤ (((rd_T24 l0 x6_1).f1).size : Int) then (if x5_1.length < 4398046511104 then (zigguratref30_Made.l0 kj4 l0 a1 (x5_1 ++ [(⟨(⟨#[120]⟩ : ByteArray).extract 0 ((1) : Int).toNat, ((rd_T24 l0 x6_1).f1).extract 0 ((ji14) : Int).toNat⟩ : S24)]) (wrap64 (x6_1 + 1))) else (none)) else (none)) else (none)) = some r := by first | (rw [hji14] at H; exact H) | (simp only [hji14] at H ⊢; exact H)
                      have hji14_ : (if 200 < (((rd_T24 l0 x6_1).f1).size : Int) then 200 else (((rd_T24 l0 x6_1).f1).size : Int)) = ji14 := hji14
                      have hji14n_ := hji14_
                      (try simp only [Int.ofNat_lt] at hji14n_)
                      by_cases c15 : 0 ≤ (ji14)
                      · rw [if_pos c15] at H
                        have c15b0 := eq_true c15
                        have c15b1 : decide (0 ≤ (ji14)) = true := decide_eq_true c15
                        clear c15
                        by_cases c16 : (ji14) ≤ (((rd_T24 l0 x6_1).f1).size : Int)
                        · rw [if_pos c16] at H
                          have c16b0 := eq_true c16
                          have c16b1 : decide ((ji14) ≤ (((rd_T24 l0 x6_1).f1).size : Int)) = true := decide_eq_true c16
                          clear c16
                          by_cases c17 : x5_1.length < 4398046511104
                          · rw [if_pos c17] at H
                            have LMc17 := Aside0.mk c17
                            clear c17
                            obtain ⟨y226, hy226⟩ : ∃ y_ : List (S24), y_ = (x5_1 ++ [(⟨(⟨#[120]⟩ : ByteArray).extract 0 ((1) : Int).toNat, ((rd_T24 l0 x6_1).f1).extract 0 ((ji14) : Int).toNat⟩ : S24)]) := ⟨_, rfl⟩
                            replace H : (zigguratref30_Made.l0 kj4 l0 a1 y226 (wrap64 (x6_1 + 1))) = some r := by first | (rw [hy226]; with_reducible exact H) | (have H2_ := (Option.bind_some _ _).symm.trans H; rw [hy226]; with_reducible exact H2_) | (have H2_ := (Option.bind_some _ _).symm.trans H; with_reducible exact H2_) | with_reducible exact H | (rw [hy226]; exact H) | exact H
                            have Ny226 := Aside0.mk hy226
                            clear hy226
                            have H' := Aside0.mk H
                            clear H
                            have p224 : 0 ≤ (x6_1 : Int) := of_decide_eq_true (by first | (with_reducible assumption) | assumption)
                            have q224 : x6_1 < (l0.length : Int) := of_decide_eq_true (by first | (with_reducible assumption) | assumption)
                            obtain ⟨ad224, e224, hx224_0, hx224_1⟩ := at_T24 HR0.out x6_1 p224 q224
                            cases e224
                            replace hx224_0 := (HB.out.cell (World.block_lt_of_cell? w _ hx224_0)).trans hx224_0
                            replace hx224_1 := (HB.out.cell (World.block_lt_of_cell? w _ hx224_1)).trans hx224_1
                            replace p224 := eq_true p224
                            replace q224 := eq_true q224
                            go_wp2_with (first | ((with_reducible refine gate_dst (N := 7) rfl ?_); refine box_event ?hg (N := 7) ?hd (cs := #[.string (⟨#[]⟩ : ByteArray), .string (⟨#[]⟩ : ByteArray)]) (t := 24) ?hr ?_; (case hd => rfl); (case hg => rfl); (case hr => first | (go_simp; done) | (go_simp; rfl)); intro gb225 hg w18 hbox hb; have n0_ := Aside0.mk (Kd.R_below (Kd.R_elderB (by (with_reducible repeat (first | apply Kd.R_alloc | apply Kd.R_drewN | apply Kd.R_drew)); exact HO_5.out) gb225 (Nat.le_of_eq hg.symm)) hb); have n1_ := Aside0.mk (below_step (by repeat (first | (with_reducible first | exact HB.out | apply below_alloc | apply pw_below_drewN | apply below_drew1) | exact HB.out)) hb); have n2_ := Aside0.mk (hbox); have n3_ := Aside0.mk ((by rw [hg]; exact (below_size (by repeat (first | (with_reducible first | exact HB.out | apply below_alloc | apply pw_below_drewN | apply below_drew1) | exact HB.out))) : w.heap.size ≤ gb225)); have n4_ := Aside0.mk ((by rw [hg]; exact (below_size (by repeat (first | (with_reducible first | exact HB.out | apply below_alloc | apply pw_below_drewN | apply below_drew1) | exact HB.out))) : w.heap.size ≤ gb225)); clear HO_5; clear HB; have HO_5 := n0_; have HB := n1_; have BK225 := n2_; have GW225 := n3_; have GE225 := n4_; clear n0_ n1_ n2_ n3_ n4_; clear hb hbox hg; have hcz19_0 : w18.cell? ⟨gb225, 0, none⟩ = some (.string (⟨#[]⟩ : ByteArray)) := (blk_cell BK225.out 0).trans rfl; have hcz19_1 : w18.cell? ⟨gb225, 1, none⟩ = some (.string (⟨#[]⟩ : ByteArray)) := (blk_cell BK225.out 1).trans rfl; have hfz19_0 := blk_frozen BK225.out 0; have hfz19_1 := blk_frozen BK225.out 1; have hs0_ : ∀ v1 v2 v3 v4 : Value, ((((w18.setCell ⟨gb225, 0, none⟩ v1).setCell ⟨gb225, 1, none⟩ v2).setCell ⟨gb225, 0, none⟩ v3).setCell ⟨gb225, 0, none⟩ v4).cell? ⟨gb225, 0, none⟩ = some v4 := (fun v1 v2 v3 v4 => World.cell?_setCell_same _ _ _ (World.cell?_setCell_same _ _ _ ((World.cell?_setCell_other _ _ _ _ (by simp)).trans (World.cell?_setCell_same _ _ _ hcz19_0)))); have hs1_ : ∀ v1 v2 v3 v4 v5 : Value, (((((w18.setCell ⟨gb225, 0, none⟩ v1).setCell ⟨gb225, 1, none⟩ v2).setCell ⟨gb225, 0, none⟩ v3).setCell ⟨gb225, 0, none⟩ v4).setCell ⟨gb225, 1, none⟩ v5).cell? ⟨gb225, 1, none⟩ = some v5 := (fun v1 v2 v3 v4 v5 => World.cell?_setCell_same _ _ _ ((World.cell?_setCell_other _ _ _ _ (by simp)).trans ((World.cell?_setCell_other _ _ _ _ (by simp)).trans (World.cell?_setCell_same _ _ _ ((World.cell?_setCell_other _ _ _ _ (by simp)).trans hcz19_1)))))) | ((with_reducible refine gate_builtin (b := .append) (xs := #[.tmp 45, .tmp 47]) rfl ?_); at_builtin; refine Kd.R_append k24 (w0 := w) w.heap.size rfl (.tmp 45) (.tmp 47) 29 24 (.agg #[(.string ⟨#[]⟩), (.string ⟨#[]⟩)]) 32 rfl Tryd.underlying29 info24 rfl (by decide) (by omega) u5 x5_1 (⟨(⟨#[120]⟩ : ByteArray).extract 0 ((1) : Int).toNat, ((rd_T24 l0 x6_1).f1).extract 0 ((ji14) : Int).toNat⟩ : S24) [.string ((⟨#[120]⟩ : ByteArray).extract 0 ((1) : Int).toNat), .string (((rd_T24 l0 x6_1).f1).extract 0 ((ji14) : Int).toNat)] (fun k_ => k_ ≠ gb225) (fun _ => False) rfl (by first | (go_simp; done) | (go_simp; rfl)) ?aP (fun _ hk => hk.elim) ?aF ?aO ?aB ?aS ?aL ?_; (case aP => exact k24_mkM _ _ _ (⟨(⟨#[120]⟩ : ByteArray).extract 0 ((1) : Int).toNat, ((rd_T24 l0 x6_1).f1).extract 0 ((ji14) : Int).toNat⟩ : S24)); (case aB => exact (by repeat (first | (with_reducible first | exact HB.out | apply below_alloc | apply pw_below_drewN | apply below_drew1 | refine below_set ?_ GE225.out) | exact HB.out))); (case aF => exact (fun k_ hk => Kd.freshB (g := gb225) (o := .cells #[.string ((⟨#[120]⟩ : ByteArray).extract 0 ((1) : Int).toNat), .string (((rd_T24 l0 x6_1).f1).extract 0 ((ji14) : Int).toNat)] 24 (0, 0)) (by (with_reducible repeat (first | refine blk_drewN ?_ _ | refine blk_drew ?_ | refine blk_alloc ?_ _)); refine blk_put (cs := #[.string ((⟨#[120]⟩ : ByteArray).extract 0 ((1) : Int).toNat), .string ((rd_T24 l0 x6_1).f1)]) ?_ 1 _ rfl; (with_reducible repeat (first | refine blk_drewN ?_ _ | refine blk_drew ?_ | refine blk_alloc ?_ _)); refine blk_put (cs := #[.string (⟨#[120]⟩ : ByteArray), .string ((rd_T24 l0 x6_1).f1)]) ?_ 0 _ rfl; (with_reducible repeat (first | refine blk_drewN ?_ _ | refine blk_drew ?_ | refine blk_alloc ?_ _)); refine blk_put (cs := #[.string ((rd_T24 l0 x6_1).f0), .string ((rd_T24 l0 x6_1).f1)]) ?_ 0 _ rfl; (with_reducible repeat (first | refine blk_drewN ?_ _ | refine blk_drew ?_ | refine blk_alloc ?_ _)); refine blk_put (cs := #[.string ((rd_T24 l0 x6_1).f0), .string (⟨#[]⟩ : ByteArray)]) ?_ 1 _ rfl; (with_reducible repeat (first | refine blk_drewN ?_ _ | refine blk_drew ?_ | refine blk_alloc ?_ _)); refine blk_put (cs := #[.string (⟨#[]⟩ : ByteArray), .string (⟨#[]⟩ : ByteArray)]) ?_ 0 _ rfl; (with_reducible repeat (first | refine blk_drewN ?_ _ | refine blk_drew ?_ | refine blk_alloc ?_ _)); exact BK225.out) k_ hk)); (case aO => exact (by (with_reducible repeat (first | apply Kd.R_alloc | apply Kd.R_drewN | apply Kd.R_drew)); exact Kd.R_mono (Kd.R_far (p := ⟨gb225, 1, none⟩) (Kd.R_far (p := ⟨gb225, 0, none⟩) (Kd.R_far (p := ⟨gb225, 0, none⟩) (Kd.R_far (p := ⟨gb225, 1, none⟩) (Kd.R_far (p := ⟨gb225, 0, none⟩) (Kd.R_mono HO_5.out (fun k_ hk => (⟨hk, hk.2⟩ : _ ∧ k_ ≠ gb225))) (fun _ hk => hk.2) (.string ((rd_T24 l0 x6_1).f0))) (fun _ hk => hk.2) (.string ((rd_T24 l0 x6_1).f1))) (fun _ hk => hk.2) (.string (⟨#[120]⟩ : ByteArray))) (fun _ hk => hk.2) (.string ((⟨#[120]⟩ : ByteArray).extract 0 ((1) : Int).toNat))) (fun _ hk => hk.2) (.string (((rd_T24 l0 x6_1).f1).extract 0 ((ji14) : Int).toNat))) (fun _ hk => hk.1.2))); (case aS => exact (below_size (by repeat (first | (with_reducible first | exact HB.out | apply below_alloc | apply pw_below_drewN | apply below_drew1 | refine below_set ?_ GE225.out) | exact HB.out)))); (case aL => have := LMc17.out; omega); intro v227 w20 ho hb hg hat; rw [← Ny226.out] at ho; have n0_ := Aside0.mk (blk_grown (g := gb225) (o := .cells #[.string ((⟨#[120]⟩ : ByteArray).extract 0 ((1) : Int).toNat), .string (((rd_T24 l0 x6_1).f1).extract 0 ((ji14) : Int).toNat)] 24 (0, 0)) (by (with_reducible repeat (first | refine blk_drewN ?_ _ | refine blk_drew ?_ | refine blk_alloc ?_ _)); refine blk_put (cs := #[.string ((⟨#[120]⟩ : ByteArray).extract 0 ((1) : Int).toNat), .string ((rd_T24 l0 x6_1).f1)]) ?_ 1 _ rfl; (with_reducible repeat (first | refine blk_drewN ?_ _ | refine blk_drew ?_ | refine blk_alloc ?_ _)); refine blk_put (cs := #[.string (⟨#[120]⟩ : ByteArray), .string ((rd_T24 l0 x6_1).f1)]) ?_ 0 _ rfl; (with_reducible repeat (first | refine blk_drewN ?_ _ | refine blk_drew ?_ | refine blk_alloc ?_ _)); refine blk_put (cs := #[.string ((rd_T24 l0 x6_1).f0), .string ((rd_T24 l0 x6_1).f1)]) ?_ 0 _ rfl; (with_reducible repeat (first | refine blk_drewN ?_ _ | refine blk_drew ?_ | refine blk_alloc ?_ _)); refine blk_put (cs := #[.string ((rd_T24 l0 x6_1).f0), .string (⟨#[]⟩ : ByteArray)]) ?_ 1 _ rfl; (with_reducible repeat (first | refine blk_drewN ?_ _ | refine blk_drew ?_ | refine blk_alloc ?_ _)); refine blk_put (cs := #[.string (⟨#[]⟩ : ByteArray), .string (⟨#[]⟩ : ByteArray)]) ?_ 0 _ rfl; (with_reducible repeat (first | refine blk_drewN ?_ _ | refine blk_drew ?_ | refine blk_alloc ?_ _)); exact BK225.out) hg (Kd.R_away HO_5.out (fun _ hk => hk.2))); have n1_ := Aside0.mk (hb); have n2_ := Aside0.mk (ho); clear BK225; clear HB; clear HO_5; have BK225 := n0_; have HB := n1_; have HO228 := n2_; clear n0_ n1_ n2_; clear ho hb hg hat))
                            first | go_roundg kj4 | (subst hji14; go_roundg kj4)
                            case measure => have := HK1.out; have := HJ4.out; omega
                            case rel => exact ⟨(y226), (wrap64 (x6_1 + 1)), (by first | rfl | (simp; done) | (simp [*]; done)), (by first | exact H' | (subst_vars; exact H')), ⟨by have := HK1.out; have := HJ4.out; omega⟩, ⟨by (with_reducible repeat (first | apply Kd.R_alloc | apply Kd.R_drewN | apply Kd.R_drew)); exact Kd.R_mono HO228.out (fun _ hk => trivial)⟩, ⟨by repeat (first | (with_reducible first | exact HB.out | apply below_alloc | apply pw_below_drewN | apply below_drew1 | refine below_set ?_ GE225.out) | exact HB.out)⟩⟩
                          · rw [if_neg c17] at H
                            exact absurd H (by simp)
                        · rw [if_neg c16] at H
                          exact absurd H (by simp)
                      · rw [if_neg c15] at H
                        exact absurd H (by simp)
                    · rw [if_neg c13] at H
                      exact absurd H (by simp)
                  · rw [if_neg c12] at H
                    exact absurd H (by simp)
                · rw [if_neg c10] at H
                  have c10b0 : ((((rd_T24 l0 x6_1).f0).size : Int) == 0) = false := beq_eq_false_iff_ne.mpr c10
                  have c10b1 : ((((rd_T24 l0 x6_1).f0).size : Int) != 0) = true := bne_iff_ne.mpr c10
                  obtain ⟨ji21, hji21⟩ : ∃ j_ : Int, (mn (((rd_T24 l0 x6_1).f0).size : Int) 20) = j_ := ⟨_, rfl⟩
                  replace H : (if 0 ≤ (ji21) then (if (ji21) ≤ (((rd_T24 l0 x6_1).f0).size : Int) then (if 0 ≤ (mn (((rd_T24 l0 x6_1).f1).size : Int) 200) then (if (mn (((rd_T24 l0 x6_1).f1).size : Int) 200) ≤ (((rd_T24 l0 x6_1).f1).size : Int) then (if x5_1.length < 4398046511104 then (zigguratref30_Made.l0 kj4 l0 a1 (x5_1 ++ [(⟨((rd_T24 l0 x6_1).f0).extract 0 ((ji21) : Int).toNat, ((rd_T24 l0 x6_1).f1).extract 0 ((mn (((rd_T24 l0 x6_1).f1).size : Int) 200) : Int).toNat⟩ : S24)]) (wrap64 (x6_1 + 1))) else (none)) else (none)) else (none)) else (none)) else (none)) = some r := by first | (rw [hji21] at H; exact H) | (simp only [hji21] at H ⊢; exact H)
                  have hji21_ : (if 20 < (((rd_T24 l0 x6_1).f0).size : Int) then 20 else (((rd_T24 l0 x6_1).f0).size : Int)) = ji21 := hji21
                  have hji21n_ := hji21_
                  (try simp only [Int.ofNat_lt] at hji21n_)
                  by_cases c22 : 0 ≤ (ji21)
                  · rw [if_pos c22] at H
                    have c22b0 := eq_true c22
                    have c22b1 : decide (0 ≤ (ji21)) = true := decide_eq_true c22
                    clear c22
                    by_cases c23 : (ji21) ≤ (((rd_T24 l0 x6_1).f0).size : Int)
                    · rw [if_pos c23] at H
                      have c23b0 := eq_true c23
                      have c23b1 : decide ((ji21) ≤ (((rd_T24 l0 x6_1).f0).size : Int)) = true := decide_eq_true c23
                      clear c23
                      obtain ⟨ji24, hji24⟩ : ∃ j_ : Int, (mn (((rd_T24 l0 x6_1).f1).size : Int) 200) = j_ := ⟨_, rfl⟩
                      replace H : (if 0 ≤ (ji24) then (if (ji24) ≤ (((rd_T24 l0 x6_1).f1).size : Int) then (if x5_1.length < 4398046511104 then (zigguratref30_Made.l0 kj4 l0 a1 (x5_1 ++ [(⟨((rd_T24 l0 x6_1).f0).extract 0 ((ji21) : Int).toNat, ((rd_T24 l0 x6_1).f1).extract 0 ((ji24) : Int).toNat⟩ : S24)]) (wrap64 (x6_1 + 1))) else (none)) else (none)) else (none)) = some r := by first | (rw [hji24] at H; exact H) | (simp only [hji24] at H ⊢; exact H)
                      have hji24_ : (if 200 < (((rd_T24 l0 x6_1).f1).size : Int) then 200 else (((rd_T24 l0 x6_1).f1).size : Int)) = ji24 := hji24
                      have hji24n_ := hji24_
                      (try simp only [Int.ofNat_lt] at hji24n_)
                      by_cases c25 : 0 ≤ (ji24)
                      · rw [if_pos c25] at H
                        have c25b0 := eq_true c25
                        have c25b1 : decide (0 ≤ (ji24)) = true := decide_eq_true c25
                        clear c25
                        by_cases c26 : (ji24) ≤ (((rd_T24 l0 x6_1).f1).size : Int)
                        · rw [if_pos c26] at H
                          have c26b0 := eq_true c26
                          have c26b1 : decide ((ji24) ≤ (((rd_T24 l0 x6_1).f1).size : Int)) = true := decide_eq_true c26
                          clear c26
                          by_cases c27 : x5_1.length < 4398046511104
                          · rw [if_pos c27] at H
                            have LMc27 := Aside0.mk c27
                            clear c27
                            obtain ⟨y229, hy229⟩ : ∃ y_ : List (S24), y_ = (x5_1 ++ [(⟨((rd_T24 l0 x6_1).f0).extract 0 ((ji21) : Int).toNat, ((rd_T24 l0 x6_1).f1).extract 0 ((ji24) : Int).toNat⟩ : S24)]) := ⟨_, rfl⟩
                            replace H : (zigguratref30_Made.l0 kj4 l0 a1 y229 (wrap64 (x6_1 + 1))) = some r := by first | (rw [hy229]; with_reducible exact H) | (have H2_ := (Option.bind_some _ _).symm.trans H; rw [hy229]; with_reducible exact H2_) | (have H2_ := (Option.bind_some _ _).symm.trans H; with_reducible exact H2_) | with_reducible exact H | (rw [hy229]; exact H) | exact H
                            have Ny229 := Aside0.mk hy229
                            clear hy229
                            have H' := Aside0.mk H
                            clear H
                            have p224 : 0 ≤ (x6_1 : Int) := of_decide_eq_true (by first | (with_reducible assumption) | assumption)
                            have q224 : x6_1 < (l0.length : Int) := of_decide_eq_true (by first | (with_reducible assumption) | assumption)
                            obtain ⟨ad224, e224, hx224_0, hx224_1⟩ := at_T24 HR0.out x6_1 p224 q224
                            cases e224
                            replace hx224_0 := (HB.out.cell (World.block_lt_of_cell? w _ hx224_0)).trans hx224_0
                            replace hx224_1 := (HB.out.cell (World.block_lt_of_cell? w _ hx224_1)).trans hx224_1
                            replace p224 := eq_true p224
                            replace q224 := eq_true q224
                            go_wp2_with (first | ((with_reducible refine gate_dst (N := 7) rfl ?_); refine box_event ?hg (N := 7) ?hd (cs := #[.string (⟨#[]⟩ : ByteArray), .string (⟨#[]⟩ : ByteArray)]) (t := 24) ?hr ?_; (case hd => rfl); (case hg => rfl); (case hr => first | (go_simp; done) | (go_simp; rfl)); intro gb225 hg w28 hbox hb; have n0_ := Aside0.mk (Kd.R_below (Kd.R_elderB (by (with_reducible repeat (first | apply Kd.R_alloc | apply Kd.R_drewN | apply Kd.R_drew)); exact HO_5.out) gb225 (Nat.le_of_eq hg.symm)) hb); have n1_ := Aside0.mk (below_step (by repeat (first | (with_reducible first | exact HB.out | apply below_alloc | apply pw_below_drewN | apply below_drew1) | exact HB.out)) hb); have n2_ := Aside0.mk (hbox); have n3_ := Aside0.mk ((by rw [hg]; exact (below_size (by repeat (first | (with_reducible first | exact HB.out | apply below_alloc | apply pw_below_drewN | apply below_drew1) | exact HB.out))) : w.heap.size ≤ gb225)); have n4_ := Aside0.mk ((by rw [hg]; exact (below_size (by repeat (first | (with_reducible first | exact HB.out | apply below_alloc | apply pw_below_drewN | apply below_drew1) | exact HB.out))) : w.heap.size ≤ gb225)); clear HO_5; clear HB; have HO_5 := n0_; have HB := n1_; have BK225 := n2_; have GW225 := n3_; have GE225 := n4_; clear n0_ n1_ n2_ n3_ n4_; clear hb hbox hg; have hcz29_0 : w28.cell? ⟨gb225, 0, none⟩ = some (.string (⟨#[]⟩ : ByteArray)) := (blk_cell BK225.out 0).trans rfl; have hcz29_1 : w28.cell? ⟨gb225, 1, none⟩ = some (.string (⟨#[]⟩ : ByteArray)) := (blk_cell BK225.out 1).trans rfl; have hfz29_0 := blk_frozen BK225.out 0; have hfz29_1 := blk_frozen BK225.out 1; have hs0_ : ∀ v1 v2 v3 : Value, (((w28.setCell ⟨gb225, 0, none⟩ v1).setCell ⟨gb225, 1, none⟩ v2).setCell ⟨gb225, 0, none⟩ v3).cell? ⟨gb225, 0, none⟩ = some v3 := (fun v1 v2 v3 => World.cell?_setCell_same _ _ _ ((World.cell?_setCell_other _ _ _ _ (by simp)).trans (World.cell?_setCell_same _ _ _ hcz29_0))); have hs1_ : ∀ v1 v2 v3 v4 : Value, ((((w28.setCell ⟨gb225, 0, none⟩ v1).setCell ⟨gb225, 1, none⟩ v2).setCell ⟨gb225, 0, none⟩ v3).setCell ⟨gb225, 1, none⟩ v4).cell? ⟨gb225, 1, none⟩ = some v4 := (fun v1 v2 v3 v4 => World.cell?_setCell_same _ _ _ ((World.cell?_setCell_other _ _ _ _ (by simp)).trans (World.cell?_setCell_same _ _ _ ((World.cell?_setCell_other _ _ _ _ (by simp)).trans hcz29_1))))) | ((with_reducible refine gate_builtin (b := .append) (xs := #[.tmp 45, .tmp 47]) rfl ?_); at_builtin; refine Kd.R_append k24 (w0 := w) w.heap.size rfl (.tmp 45) (.tmp 47) 29 24 (.agg #[(.string ⟨#[]⟩), (.string ⟨#[]⟩)]) 32 rfl Tryd.underlying29 info24 rfl (by decide) (by omega) u5 x5_1 (⟨((rd_T24 l0 x6_1).f0).extract 0 ((ji21) : Int).toNat, ((rd_T24 l0 x6_1).f1).extract 0 ((ji24) : Int).toNat⟩ : S24) [.string (((rd_T24 l0 x6_1).f0).extract 0 ((ji21) : Int).toNat), .string (((rd_T24 l0 x6_1).f1).extract 0 ((ji24) : Int).toNat)] (fun k_ => k_ ≠ gb225) (fun _ => False) rfl (by first | (go_simp; done) | (go_simp; rfl)) ?aP (fun _ hk => hk.elim) ?aF ?aO ?aB ?aS ?aL ?_; (case aP => exact k24_mkM _ _ _ (⟨((rd_T24 l0 x6_1).f0).extract 0 ((ji21) : Int).toNat, ((rd_T24 l0 x6_1).f1).extract 0 ((ji24) : Int).toNat⟩ : S24)); (case aB => exact (by repeat (first | (with_reducible first | exact HB.out | apply below_alloc | apply pw_below_drewN | apply below_drew1 | refine below_set ?_ GE225.out) | exact HB.out))); (case aF => exact (fun k_ hk => Kd.freshB (g := gb225) (o := .cells #[.string (((rd_T24 l0 x6_1).f0).extract 0 ((ji21) : Int).toNat), .string (((rd_T24 l0 x6_1).f1).extract 0 ((ji24) : Int).toNat)] 24 (0, 0)) (by (with_reducible repeat (first | refine blk_drewN ?_ _ | refine blk_drew ?_ | refine blk_alloc ?_ _)); refine blk_put (cs := #[.string (((rd_T24 l0 x6_1).f0).extract 0 ((ji21) : Int).toNat), .string ((rd_T24 l0 x6_1).f1)]) ?_ 1 _ rfl; (with_reducible repeat (first | refine blk_drewN ?_ _ | refine blk_drew ?_ | refine blk_alloc ?_ _)); refine blk_put (cs := #[.string ((rd_T24 l0 x6_1).f0), .string ((rd_T24 l0 x6_1).f1)]) ?_ 0 _ rfl; (with_reducible repeat (first | refine blk_drewN ?_ _ | refine blk_drew ?_ | refine blk_alloc ?_ _)); refine blk_put (cs := #[.string ((rd_T24 l0 x6_1).f0), .string (⟨#[]⟩ : ByteArray)]) ?_ 1 _ rfl; (with_reducible repeat (first | refine blk_drewN ?_ _ | refine blk_drew ?_ | refine blk_alloc ?_ _)); refine blk_put (cs := #[.string (⟨#[]⟩ : ByteArray), .string (⟨#[]⟩ : ByteArray)]) ?_ 0 _ rfl; (with_reducible repeat (first | refine blk_drewN ?_ _ | refine blk_drew ?_ | refine blk_alloc ?_ _)); exact BK225.out) k_ hk)); (case aO => exact (by (with_reducible repeat (first | apply Kd.R_alloc | apply Kd.R_drewN | apply Kd.R_drew)); exact Kd.R_mono (Kd.R_far (p := ⟨gb225, 1, none⟩) (Kd.R_far (p := ⟨gb225, 0, none⟩) (Kd.R_far (p := ⟨gb225, 1, none⟩) (Kd.R_far (p := ⟨gb225, 0, none⟩) (Kd.R_mono HO_5.out (fun k_ hk => (⟨hk, hk.2⟩ : _ ∧ k_ ≠ gb225))) (fun _ hk => hk.2) (.string ((rd_T24 l0 x6_1).f0))) (fun _ hk => hk.2) (.string ((rd_T24 l0 x6_1).f1))) (fun _ hk => hk.2) (.string (((rd_T24 l0 x6_1).f0).extract 0 ((ji21) : Int).toNat))) (fun _ hk => hk.2) (.string (((rd_T24 l0 x6_1).f1).extract 0 ((ji24) : Int).toNat))) (fun _ hk => hk.1.2))); (case aS => exact (below_size (by repeat (first | (with_reducible first | exact HB.out | apply below_alloc | apply pw_below_drewN | apply below_drew1 | refine below_set ?_ GE225.out) | exact HB.out)))); (case aL => have := LMc27.out; omega); intro v230 w30 ho hb hg hat; rw [← Ny229.out] at ho; have n0_ := Aside0.mk (blk_grown (g := gb225) (o := .cells #[.string (((rd_T24 l0 x6_1).f0).extract 0 ((ji21) : Int).toNat), .string (((rd_T24 l0 x6_1).f1).extract 0 ((ji24) : Int).toNat)] 24 (0, 0)) (by (with_reducible repeat (first | refine blk_drewN ?_ _ | refine blk_drew ?_ | refine blk_alloc ?_ _)); refine blk_put (cs := #[.string (((rd_T24 l0 x6_1).f0).extract 0 ((ji21) : Int).toNat), .string ((rd_T24 l0 x6_1).f1)]) ?_ 1 _ rfl; (with_reducible repeat (first | refine blk_drewN ?_ _ | refine blk_drew ?_ | refine blk_alloc ?_ _)); refine blk_put (cs := #[.string ((rd_T24 l0 x6_1).f0), .string ((rd_T24 l0 x6_1).f1)]) ?_ 0 _ rfl; (with_reducible repeat (first | refine blk_drewN ?_ _ | refine blk_drew ?_ | refine blk_alloc ?_ _)); refine blk_put (cs := #[.string ((rd_T24 l0 x6_1).f0), .string (⟨#[]⟩ : ByteArray)]) ?_ 1 _ rfl; (with_reducible repeat (first | refine blk_drewN ?_ _ | refine blk_drew ?_ | refine blk_alloc ?_ _)); refine blk_put (cs := #[.string (⟨#[]⟩ : ByteArray), .string (⟨#[]⟩ : ByteArray)]) ?_ 0 _ rfl; (with_reducible repeat (first | refine blk_drewN ?_ _ | refine blk_drew ?_ | refine blk_alloc ?_ _)); exact BK225.out) hg (Kd.R_away HO_5.out (fun _ hk => hk.2))); have n1_ := Aside0.mk (hb); have n2_ := Aside0.mk (ho); clear BK225; clear HB; clear HO_5; have BK225 := n0_; have HB := n1_; have HO231 := n2_; clear n0_ n1_ n2_; clear ho hb hg hat))
                            first | go_roundg kj4 | (subst hji21; go_roundg kj4) | (subst hji24; go_roundg kj4)
                            case measure => have := HK1.out; have := HJ4.out; omega
                            case rel => exact ⟨(y229), (wrap64 (x6_1 + 1)), (by first | rfl | (simp; done) | (simp [*]; done)), (by first | exact H' | (subst_vars; exact H')), ⟨by have := HK1.out; have := HJ4.out; omega⟩, ⟨by (with_reducible repeat (first | apply Kd.R_alloc | apply Kd.R_drewN | apply Kd.R_drew)); exact Kd.R_mono HO231.out (fun _ hk => trivial)⟩, ⟨by repeat (first | (with_reducible first | exact HB.out | apply below_alloc | apply pw_below_drewN | apply below_drew1 | refine below_set ?_ GE225.out) | exact HB.out)⟩⟩
                          · rw [if_neg c27] at H
                            exact absurd H (by simp)
                        · rw [if_neg c26] at H
                          exact absurd H (by simp)
                      · rw [if_neg c25] at H
                        exact absurd H (by simp)
                    · rw [if_neg c23] at H
                      exact absurd H (by simp)
                  · rw [if_neg c22] at H
                    exact absurd H (by simp)
              · rw [if_neg c9] at H
                exact absurd H (by simp)
            · rw [if_neg c8] at H
              exact absurd H (by simp)
          · replace c7 := Bool.eq_false_iff.mpr c7
            subst c7
            have H1 : (some x5_1) = some r := by rw [if_neg (show ¬ (false = true) by decide)] at H; exact H
            clear H
            have H := H1
            clear H1
            obtain rfl := Option.some.inj H
            go_wp2
            go_ret
            exact ⟨_, by first | rfl | (simp [errW_none, errW_some] <;> rfl) | (simp [*, errW_none, errW_some] <;> rfl), by (with_reducible repeat (first | apply Kd.R_alloc | apply Kd.R_drewN | apply Kd.R_drew)); exact HO_5.out, by repeat (first | (with_reducible first | exact HB.out | apply below_alloc | apply pw_below_drewN | apply below_drew1) | exact HB.out)⟩

/-! ### zigguratlaw30_written: function 22 -/
def zigguratlaw30_written.l0 : Nat → List (S24) → List Int → Int → Option (List Int × Bool)
  | 0, _, _, _ => none
  | k + 1, x0, x4, x5 => if x5 < (x0.length : Int) then (if 0 ≤ x5 then ((store_Append.f x4 ((rd_T24 x0 x5).f0) ((rd_T24 x0 x5).f1)).bind fun bt236 => (if bt236.2 = 0 then (zigguratlaw30_written.l0 k x0 bt236.1 (wrap64 (x5 + 1))) else (some (x4, false)))) else (none)) else (some (x4, true))
def zigguratlaw30_written.f (k : Nat) (l0 : List (S24)) : Option (List Int × Bool) := zigguratlaw30_written.l0 k l0 (([] : List Int)) 0
theorem zigguratlaw30_written.mono_l : ∀ k, (∀ y0 y1 y2, LeO (zigguratlaw30_written.l0 k y0 y1 y2) (zigguratlaw30_written.l0 (k + 1) y0 y1 y2))
  | 0 => fun _ _ _ r h => by simp [zigguratlaw30_written.l0] at h
  | k + 1 => by
    have ih0 := zigguratlaw30_written.mono_l k
    · intro y0 y1 y2
      unfold zigguratlaw30_written.l0
      repeat' first
      | (with_reducible exact ih0 _ _ _)
      | (with_reducible exact LeO.refl _)
      | (with_reducible exact LeO.none _)
      | (with_reducible refine LeO.ite ?_ ?_)
      | (with_reducible refine LeO.bind ?_ (fun _ => ?_))
      | exact ih0 _ _ _
      | exact LeO.none _
      | refine LeO.ite ?_ ?_
      | refine LeO.bind ?_ (fun _ => ?_)
theorem zigguratlaw30_written.mono : ∀ a0 k, LeO (zigguratlaw30_written.f k a0) (zigguratlaw30_written.f (k + 1) a0) := by
  intro a0 k
  have ih0 := zigguratlaw30_written.mono_l k
  unfold zigguratlaw30_written.f
  repeat' first
      | (with_reducible exact ih0 _ _ _)
      | (with_reducible exact LeO.refl _)
      | (with_reducible exact LeO.none _)
      | (with_reducible refine LeO.ite ?_ ?_)
      | (with_reducible refine LeO.bind ?_ (fun _ => ?_))
      | exact ih0 _ _ _
      | exact LeO.none _
      | refine LeO.ite ?_ ?_
      | refine LeO.bind ?_ (fun _ => ?_)
set_option maxHeartbeats 8000000 in
set_option maxRecDepth 100000 in
theorem zigguratlaw30_written.calls (k : Nat) (A0 : Option Addr) (c0 : Nat) (l0 : List (S24)) (r1 : List Int) (r2 : Bool) (w : World) (hr0 : Kd.C k24 w A0 l0.length l0) (hc0 : l0.length ≤ c0) (h : zigguratlaw30_written.f k l0 = some (r1, r2)) :
    Calls Tryd.prog 22 #[.slice A0 l0.length c0] w fun e w' => ∃ v0_ : Value, e = .returned (.tuple #[v0_, .bool r2]) ∧ Kd.R (Kd.int .u8) 5 w' w.heap.size (fun _ => True) v0_ r1 ∧ Below w.heap.size w w' := by
  have hu24 := Tryd.underlying24
  have HR0 := Aside0.mk hr0
  have HC0 := Aside0.mk hc0
  clear hr0 hc0
  have HB := Aside0.mk (Below.refl w.heap.size w)
  have H : (zigguratlaw30_written.l0 k l0 (([] : List Int)) 0) = some (r1, r2) := h
  clear h
  obtain ⟨y232, hy232⟩ : ∃ y_ : List Int, y_ = (([] : List Int)) := ⟨_, rfl⟩
  replace H : (zigguratlaw30_written.l0 k l0 y232 0) = some (r1, r2) := by first | (rw [hy232]; with_reducible exact H) | (have H2_ := (Option.bind_some _ _).symm.trans H; rw [hy232]; with_reducible exact H2_) | (have H2_ := (Option.bind_some _ _).symm.trans H; with_reducible exact H2_) | with_reducible exact H | (rw [hy232]; exact H) | exact H
  have Ny232 := Aside0.mk hy232
  clear hy232
  have H' := Aside0.mk H
  clear H
  go_enter Tryd.func22, Tryd.ntmps22
  go_wp2_with (first | ((with_reducible refine gate_dst (N := 8) rfl ?_); refine Kd.R_lit (Kd.int .u8) _ 5 ?hg (N := 8) ?hd (xs := ([] : List Int)) (inner := []) (ok := fun _ => True) (okp := fun _ => True) ?hr ?hp (fun _ hk => hk) trivial (Below.refl _ _) (Nat.le_refl _) (by simp) ?_; (case hd => rfl); (case hg => rfl); (case hr => first | (go_simp; done) | (go_simp; rfl)); (case hp => exact (Reps.none _ _)); intro v233 w2 ho3 hb hg_ hnew_; clear hg_ hnew_; (first | rw [← Ny232.out] at ho3 | (simp only [Int.reduceToNat] at ho3; rw [← Ny232.out] at ho3)); have n0_ := Aside0.mk (Kd.R_lower ho3 (below_size (by repeat (first | (with_reducible first | exact HB.out | apply below_alloc | apply pw_below_drewN | apply below_drew1) | exact HB.out)))); have n1_ := Aside0.mk (below_step (by repeat (first | (with_reducible first | exact HB.out | apply below_alloc | apply pw_below_drewN | apply below_drew1) | exact HB.out)) hb); clear HB; have HO234 := n0_; have HB := n1_; clear n0_ n1_; clear hb ho3))
  go_loopg [4, 5] k (fun kq v4 v5 w' => ∃ (x4_1 : List Int) (x5_1 : Int), v5 = .int .i64 x5_1 ∧ Aside0 (zigguratlaw30_written.l0 kq l0 x4_1 x5_1 = some (r1, r2)) ∧ Aside0 (kq ≤ k) ∧ Aside0 (Kd.R (Kd.int .u8) 5 w' w.heap.size (fun _ => True) v4 x4_1) ∧ Aside0 (Below w.heap.size w w'))
  case atStart => exact ⟨(y232), (0), (by first | rfl | (simp; done) | (simp [*]; done)), H', ⟨Nat.le_refl _⟩, ⟨by (with_reducible repeat (first | apply Kd.R_alloc | apply Kd.R_drewN | apply Kd.R_drew)); exact HO234.out⟩, ⟨by repeat (first | (with_reducible first | exact HB.out | apply below_alloc | apply pw_below_drewN | apply below_drew1) | exact HB.out)⟩⟩
  case round =>
    clear H'
    try clear c2
    try clear p2
    obtain ⟨x4_1, x5_1, rfl, HA, HK1, HO_4, HB⟩ := hrel
    cases gk with
    | zero => exact absurd HA.out (by simp [zigguratlaw30_written.l0])
    | succ k1 =>
      have H := HA.out
      clear HA
      simp only [zigguratlaw30_written.l0] at H
      by_cases c4 : x5_1 < (l0.length : Int)
      · rw [if_pos c4] at H
        have c4b0 : decide (x5_1 < (l0.length : Int)) = true := decide_eq_true c4
        clear c4
        by_cases c5 : 0 ≤ x5_1
        · rw [if_pos c5] at H
          have c5b0 : decide (0 ≤ x5_1) = true := decide_eq_true c5
          clear c5
          replace H := Option.bind_eq_some_iff.mp H
          obtain ⟨⟨t236, t239⟩, A60, H⟩ := H
          replace H : (if t239 = 0 then (zigguratlaw30_written.l0 k1 l0 t236 (wrap64 (x5_1 + 1))) else (some (x4_1, false))) = some (r1, r2) := H
          have A6 := Aside0.mk A60
          clear A60
          by_cases c7 : t239 = 0
          · rw [if_pos c7] at H
            have c7b0 : (t239 == 0) = true := beq_iff_eq.mpr c7
            have c7b1 : (t239 != 0) = false := bne_eq_false_iff_eq.mpr c7
            clear c7
            have H' := Aside0.mk H
            clear H
            have p235 : 0 ≤ (x5_1 : Int) := of_decide_eq_true (by first | (with_reducible assumption) | assumption)
            have q235 : x5_1 < (l0.length : Int) := of_decide_eq_true (by first | (with_reducible assumption) | assumption)
            obtain ⟨ad235, e235, hx235_0, hx235_1⟩ := at_T24 HR0.out x5_1 p235 q235
            cases e235
            replace hx235_0 := (HB.out.cell (World.block_lt_of_cell? w _ hx235_0)).trans hx235_0
            replace hx235_1 := (HB.out.cell (World.block_lt_of_cell? w _ hx235_1)).trans hx235_1
            replace p235 := eq_true p235
            replace q235 := eq_true q235
            obtain ⟨Ao8, co8, eo8⟩ := Kd.R_slice HO_4.out
            subst eo8
            go_wp2_with (first | ((with_reducible refine gate_callee (f := 12) rfl ?_); refine goesL_ (some 21) rfl rfl Tryd.func12 (by kernel_rfl) rfl #[.slice Ao8 x4_1.length co8, .agg #[.string ((rd_T24 l0 x5_1).f0), .string ((rd_T24 l0 x5_1).f1)]] rfl (by (try simp only [List.map_toArray, List.map_cons, List.map_nil]); first | done | rfl | (simp only [List.length_drop, List.length_take]; rfl)) ?_; (with_reducible refine (store_Append.calls _ _ x4_1 ((rd_T24 l0 x5_1).f0) ((rd_T24 l0 x5_1).f1) t236 t239 _ ?side1 ?side2 A6.out).mono ?_); (case side1 => repeat (first | exact (Kd.R_reads' HO_4.out).2.2 | (with_reducible refine Kd.C_alloc ?_ _) | (with_reducible refine Kd.C_drewN ?_ _) | (with_reducible refine Kd.C_drew ?_))); (case side2 => exact (Kd.R_reads' HO_4.out).2.1); rintro e w9 ⟨v237, rfl, ho0, hb⟩; refine ⟨_, rfl, ?_⟩; have n0_ := Aside0.mk (Kd.R_elder' (by (with_reducible repeat (first | apply Kd.R_alloc | apply Kd.R_drewN | apply Kd.R_drew)); exact HO_4.out) (Kd.R_base ho0) hb); have n1_ := Aside0.mk (Kd.R_lower (Kd.R_new' ho0 (Kd.R_lt (by (with_reducible repeat (first | apply Kd.R_alloc | apply Kd.R_drewN | apply Kd.R_drew)); exact HO_4.out))) (below_size (by repeat (first | (with_reducible first | exact HB.out | apply below_alloc | apply pw_below_drewN | apply below_drew1) | exact HB.out)))); have n2_ := Aside0.mk (below_step (by repeat (first | (with_reducible first | exact HB.out | apply below_alloc | apply pw_below_drewN | apply below_drew1) | exact HB.out)) hb); clear HO_4; clear HB; have HO_4 := n0_; have HO238 := n1_; have HB := n2_; clear n0_ n1_ n2_; (try clear hb); (try clear hb2); (try clear hk); (try clear hi); (try clear ho0)))
            go_roundg k1
            case measure => have := HK1.out; omega
            case rel => exact ⟨(t236), (wrap64 (x5_1 + 1)), (by first | rfl | (simp; done) | (simp [*]; done)), (by first | exact H' | (subst_vars; exact H')), ⟨by have := HK1.out; omega⟩, ⟨by (with_reducible repeat (first | apply Kd.R_alloc | apply Kd.R_drewN | apply Kd.R_drew)); exact Kd.R_mono HO238.out (fun _ hk => trivial)⟩, ⟨by repeat (first | (with_reducible first | exact HB.out | apply below_alloc | apply pw_below_drewN | apply below_drew1) | exact HB.out)⟩⟩
          · rw [if_neg c7] at H
            have c7b0 : (t239 == 0) = false := beq_eq_false_iff_ne.mpr c7
            have c7b1 : (t239 != 0) = true := bne_iff_ne.mpr c7
            simp only [Option.some.injEq, Prod.mk.injEq] at H
            obtain ⟨rfl, rfl⟩ := H
            have p235 : 0 ≤ (x5_1 : Int) := of_decide_eq_true (by first | (with_reducible assumption) | assumption)
            have q235 : x5_1 < (l0.length : Int) := of_decide_eq_true (by first | (with_reducible assumption) | assumption)
            obtain ⟨ad235, e235, hx235_0, hx235_1⟩ := at_T24 HR0.out x5_1 p235 q235
            cases e235
            replace hx235_0 := (HB.out.cell (World.block_lt_of_cell? w _ hx235_0)).trans hx235_0
            replace hx235_1 := (HB.out.cell (World.block_lt_of_cell? w _ hx235_1)).trans hx235_1
            replace p235 := eq_true p235
            replace q235 := eq_true q235
            obtain ⟨Ao10, co10, eo10⟩ := Kd.R_slice HO_4.out
            subst eo10
            go_wp2_with (first | ((with_reducible refine gate_callee (f := 12) rfl ?_); refine goesL_ (some 21) rfl rfl Tryd.func12 (by kernel_rfl) rfl #[.slice Ao10 x4_1.length co10, .agg #[.string ((rd_T24 l0 x5_1).f0), .string ((rd_T24 l0 x5_1).f1)]] rfl (by (try simp only [List.map_toArray, List.map_cons, List.map_nil]); first | done | rfl | (simp only [List.length_drop, List.length_take]; rfl)) ?_; (with_reducible refine (store_Append.calls _ _ x4_1 ((rd_T24 l0 x5_1).f0) ((rd_T24 l0 x5_1).f1) t236 t239 _ ?side1 ?side2 A6.out).mono ?_); (case side1 => repeat (first | exact (Kd.R_reads' HO_4.out).2.2 | (with_reducible refine Kd.C_alloc ?_ _) | (with_reducible refine Kd.C_drewN ?_ _) | (with_reducible refine Kd.C_drew ?_))); (case side2 => exact (Kd.R_reads' HO_4.out).2.1); rintro e w11 ⟨v237, rfl, ho0, hb⟩; refine ⟨_, rfl, ?_⟩; have n0_ := Aside0.mk (Kd.R_elder' (by (with_reducible repeat (first | apply Kd.R_alloc | apply Kd.R_drewN | apply Kd.R_drew)); exact HO_4.out) (Kd.R_base ho0) hb); have n1_ := Aside0.mk (Kd.R_lower (Kd.R_new' ho0 (Kd.R_lt (by (with_reducible repeat (first | apply Kd.R_alloc | apply Kd.R_drewN | apply Kd.R_drew)); exact HO_4.out))) (below_size (by repeat (first | (with_reducible first | exact HB.out | apply below_alloc | apply pw_below_drewN | apply below_drew1) | exact HB.out)))); have n2_ := Aside0.mk (below_step (by repeat (first | (with_reducible first | exact HB.out | apply below_alloc | apply pw_below_drewN | apply below_drew1) | exact HB.out)) hb); clear HO_4; clear HB; have HO_4 := n0_; have HO238 := n1_; have HB := n2_; clear n0_ n1_ n2_; (try clear hb); (try clear hb2); (try clear hk); (try clear hi); (try clear ho0)))
            go_ret2
            exact ⟨_, by first | rfl | (simp [errW_none, errW_some] <;> rfl) | (simp [*, errW_none, errW_some] <;> rfl), by (with_reducible repeat (first | apply Kd.R_alloc | apply Kd.R_drewN | apply Kd.R_drew)); exact Kd.R_mono HO_4.out (fun _ hk => trivial), by repeat (first | (with_reducible first | exact HB.out | apply below_alloc | apply pw_below_drewN | apply below_drew1) | exact HB.out)⟩
        · rw [if_neg c5] at H
          exact absurd H (by simp)
      · rw [if_neg c4] at H
        have c4b0 : decide (x5_1 < (l0.length : Int)) = false := decide_eq_false c4
        clear c4
        simp only [Option.some.injEq, Prod.mk.injEq] at H
        obtain ⟨rfl, rfl⟩ := H
        go_wp2
        go_ret2
        exact ⟨_, by first | rfl | (simp [errW_none, errW_some] <;> rfl) | (simp [*, errW_none, errW_some] <;> rfl), by (with_reducible repeat (first | apply Kd.R_alloc | apply Kd.R_drewN | apply Kd.R_drew)); exact HO_4.out, by repeat (first | (with_reducible first | exact HB.out | apply below_alloc | apply pw_below_drewN | apply below_drew1) | exact HB.out)⟩

end Go.Proofs.YtkeegknadegaaaaDoor.Q
