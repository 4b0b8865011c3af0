-- Written by a program of this session (a patched print) for this claim; Lean checks it.
import Derived.Test.YtplkofflhacehaaQ0
import Derived.Test.YtplkofflhacehaaQ1
import Derived.Test.YtplkofflhacehaaQ8
import Derived.Test.YtplkofflhacehaaQ9
import Derived.Test.YtplkofflhacehaaQ10
namespace Go.Proofs.Ytplkofflhacehaa.Q
open Go.RowKit Go.Proofs.YtplkofflhacehaaW.PrintWords Go.Proofs.YtplkofflhacehaaW.PrintLast Go.Proofs.YtplkofflhacehaaW.PrintMore
attribute [local go_sem] max2_int min2_int max_two min_two max_three min_three max_four min_four   -- for this text's walks alone
set_option linter.unusedVariables false
set_option linter.unusedSimpArgs false

/-! ### zigguratref01_Shl: function 31 -/
mutual
def zigguratref01_Shl.l0 : Nat → List Int → Int → List Int → Int → Int → Int → Option (List Int)
  | 0, _, _, _, _, _, _ => none
  | k + 1, x0, x1, x5, x6, x7, x8 => if x8 < (wrap64 (Int.tdiv x1 32)) then (if x5.length < 35184372088832 then (zigguratref01_Shl.l0 k x0 x1 (x5 ++ [0]) x6 x7 (wrap64 (x8 + 1))) else (none)) else (zigguratref01_Shl.l1 k x0 x1 x5 x6 x7 0)
def zigguratref01_Shl.l1 : Nat → List Int → Int → List Int → Int → Int → Int → Option (List Int)
  | 0, _, _, _, _, _, _ => none
  | k + 1, x0, x1, x5, x6, x7, x9 => if x9 < (Int.tmod x1 32) then (zigguratref01_Shl.l1 k x0 x1 x5 x6 (IntKind.u64.wrap (2 * x7)) (wrap64 (x9 + 1))) else (zigguratref01_Shl.l2 k x0 x5 x6 x7 0)
def zigguratref01_Shl.l2 : Nat → List Int → List Int → Int → Int → Int → Option (List Int)
  | 0, _, _, _, _, _ => none
  | k + 1, x0, x5, x6, x7, x10 => if x10 ≤ (x0.length : Int) then ((zigguratref01_limb.f x0 x10).bind fun t289 => (if x5.length < 35184372088832 then (zigguratref01_Shl.l2 k x0 (x5 ++ [(Int.tmod (IntKind.u64.wrap ((IntKind.u64.wrap (t289 * x7)) + x6)) 4294967296) % 4294967296]) (IntKind.u64.wrap (Int.tdiv (IntKind.u64.wrap ((IntKind.u64.wrap (t289 * x7)) + x6)) 4294967296)) x7 (wrap64 (x10 + 1))) else (none))) else ((zigguratref01_Make.f k x5).bind fun t293 => (some t293))
end
def zigguratref01_Shl.f (k : Nat) (l0 : List Int) (a1 : Int) : Option (List Int) := zigguratref01_Shl.l0 k l0 a1 (([] : List Int)) 0 1 0
theorem zigguratref01_Shl.mono_l : ∀ k, (∀ y0 y1 y2 y3 y4 y5, LeO (zigguratref01_Shl.l0 k y0 y1 y2 y3 y4 y5) (zigguratref01_Shl.l0 (k + 1) y0 y1 y2 y3 y4 y5)) ∧ (∀ y0 y1 y2 y3 y4 y5, LeO (zigguratref01_Shl.l1 k y0 y1 y2 y3 y4 y5) (zigguratref01_Shl.l1 (k + 1) y0 y1 y2 y3 y4 y5)) ∧ (∀ y0 y1 y2 y3 y4, LeO (zigguratref01_Shl.l2 k y0 y1 y2 y3 y4) (zigguratref01_Shl.l2 (k + 1) y0 y1 y2 y3 y4))
  | 0 => ⟨fun _ _ _ _ _ _ r h => by simp [zigguratref01_Shl.l0] at h, fun _ _ _ _ _ _ r h => by simp [zigguratref01_Shl.l1] at h, fun _ _ _ _ _ r h => by simp [zigguratref01_Shl.l2] at h⟩
  | k + 1 => by
    obtain ⟨ih0, ih1, ih2⟩ := zigguratref01_Shl.mono_l k
    refine ⟨?_, ?_, ?_⟩
    · intro y0 y1 y2 y3 y4 y5
      unfold zigguratref01_Shl.l0
      repeat' first
      | (with_reducible exact ih0 _ _ _ _ _ _)
      | (with_reducible exact ih1 _ _ _ _ _ _)
      | (with_reducible exact ih2 _ _ _ _ _)
      | (with_reducible exact zigguratref01_Make.mono _ _)
      | (with_reducible exact LeO.refl _)
      | (with_reducible exact LeO.none _)
      | (with_reducible refine LeO.ite ?_ ?_)
      | (with_reducible refine LeO.bind ?_ (fun _ => ?_))
      | exact ih0 _ _ _ _ _ _
      | exact ih1 _ _ _ _ _ _
      | exact ih2 _ _ _ _ _
      | exact zigguratref01_Make.mono _ _
      | exact LeO.none _
      | refine LeO.ite ?_ ?_
      | refine LeO.bind ?_ (fun _ => ?_)
    · intro y0 y1 y2 y3 y4 y5
      unfold zigguratref01_Shl.l1
      repeat' first
      | (with_reducible exact ih0 _ _ _ _ _ _)
      | (with_reducible exact ih1 _ _ _ _ _ _)
      | (with_reducible exact ih2 _ _ _ _ _)
      | (with_reducible exact zigguratref01_Make.mono _ _)
      | (with_reducible exact LeO.refl _)
      | (with_reducible exact LeO.none _)
      | (with_reducible refine LeO.ite ?_ ?_)
      | (with_reducible refine LeO.bind ?_ (fun _ => ?_))
      | exact ih0 _ _ _ _ _ _
      | exact ih1 _ _ _ _ _ _
      | exact ih2 _ _ _ _ _
      | exact zigguratref01_Make.mono _ _
      | exact LeO.none _
      | refine LeO.ite ?_ ?_
      | refine LeO.bind ?_ (fun _ => ?_)
    · intro y0 y1 y2 y3 y4
      unfold zigguratref01_Shl.l2
      repeat' first
      | (with_reducible exact ih0 _ _ _ _ _ _)
      | (with_reducible exact ih1 _ _ _ _ _ _)
      | (with_reducible exact ih2 _ _ _ _ _)
      | (with_reducible exact zigguratref01_Make.mono _ _)
      | (with_reducible exact LeO.refl _)
      | (with_reducible exact LeO.none _)
      | (with_reducible refine LeO.ite ?_ ?_)
      | (with_reducible refine LeO.bind ?_ (fun _ => ?_))
      | exact ih0 _ _ _ _ _ _
      | exact ih1 _ _ _ _ _ _
      | exact ih2 _ _ _ _ _
      | exact zigguratref01_Make.mono _ _
      | exact LeO.none _
      | refine LeO.ite ?_ ?_
      | refine LeO.bind ?_ (fun _ => ?_)
theorem zigguratref01_Shl.mono : ∀ a0 a1 k, LeO (zigguratref01_Shl.f k a0 a1) (zigguratref01_Shl.f (k + 1) a0 a1) := by
  intro a0 a1 k
  obtain ⟨ih0, ih1, ih2⟩ := zigguratref01_Shl.mono_l k
  unfold zigguratref01_Shl.f
  repeat' first
      | (with_reducible exact ih0 _ _ _ _ _ _)
      | (with_reducible exact ih1 _ _ _ _ _ _)
      | (with_reducible exact ih2 _ _ _ _ _)
      | (with_reducible exact zigguratref01_Make.mono _ _)
      | (with_reducible exact LeO.refl _)
      | (with_reducible exact LeO.none _)
      | (with_reducible refine LeO.ite ?_ ?_)
      | (with_reducible refine LeO.bind ?_ (fun _ => ?_))
      | exact ih0 _ _ _ _ _ _
      | exact ih1 _ _ _ _ _ _
      | exact ih2 _ _ _ _ _
      | exact zigguratref01_Make.mono _ _
      | exact LeO.none _
      | refine LeO.ite ?_ ?_
      | refine LeO.bind ?_ (fun _ => ?_)
set_option maxHeartbeats 8000000 in
set_option maxRecDepth 100000 in
theorem zigguratref01_Shl.calls (k : Nat) (A0 : Option Addr) (c0 : Nat) (l0 : List Int) (a1 : Int) (r : List Int) (w : World) (hr0 : Kd.C (Kd.int .u32) w A0 l0.length l0) (hc0 : l0.length ≤ c0) (h : zigguratref01_Shl.f k l0 a1 = some r) :
    Calls Try.prog 31 #[.slice A0 l0.length c0, .int .i64 a1] w fun e w' => ∃ v0_ : Value, e = .returned (v0_) ∧ Kd.R (Kd.int .u32) 37 w' w.heap.size (fun _ => True) v0_ r ∧ Below w.heap.size w w' := by
  have HR0 := Aside0.mk hr0
  have HC0 := Aside0.mk hc0
  clear hr0 hc0
  have HB := Aside0.mk (Below.refl w.heap.size w)
  have H : (zigguratref01_Shl.l0 k l0 a1 (([] : List Int)) 0 1 0) = some r := h
  clear h
  obtain ⟨y283, hy283⟩ : ∃ y_ : List Int, y_ = (([] : List Int)) := ⟨_, rfl⟩
  replace H : (zigguratref01_Shl.l0 k l0 a1 y283 0 1 0) = some r := by first | (rw [hy283]; with_reducible exact H) | (have H2_ := (Option.bind_some _ _).symm.trans H; rw [hy283]; with_reducible exact H2_) | (have H2_ := (Option.bind_some _ _).symm.trans H; with_reducible exact H2_) | with_reducible exact H | (rw [hy283]; exact H) | exact H
  have Ny283 := Aside0.mk hy283
  clear hy283
  have H' := Aside0.mk H
  clear H
  go_enter Try.func31, Try.ntmps31
  go_wp2_with (first | ((with_reducible refine gate_dst (N := 12) rfl ?_); refine Kd.R_lit (Kd.int .u32) _ 37 ?hg (N := 12) ?hd (xs := ([] : List Int)) (inner := []) (ok := fun _ => True) (okp := fun _ => True) ?hr ?hp (fun _ hk => hk) trivial (Below.refl _ _) (Nat.le_refl _) (by simp) ?_; (case hd => rfl); (case hg => rfl); (case hr => first | (go_simp; done) | (go_simp; rfl)); (case hp => exact (Reps.none _ _)); intro v284 w3 ho4 hb hg_ hnew_; clear hg_ hnew_; (first | rw [← Ny283.out] at ho4 | (simp only [Int.reduceToNat] at ho4; rw [← Ny283.out] at ho4)); have n0_ := Aside0.mk (Kd.R_lower ho4 (below_size (by repeat (first | (with_reducible first | exact HB.out | apply below_alloc | apply pw_below_drewN | apply below_drew1) | exact HB.out)))); have n1_ := Aside0.mk (below_step (by repeat (first | (with_reducible first | exact HB.out | apply below_alloc | apply pw_below_drewN | apply below_drew1) | exact HB.out)) hb); clear HB; have HO285 := n0_; have HB := n1_; clear n0_ n1_; clear hb ho4))
  go_loopg [5, 8] k (fun kq v5 v8 w' => ∃ (x5_1 : List Int) (x8_1 : Int), v8 = .int .i64 x8_1 ∧ Aside0 (zigguratref01_Shl.l0 kq l0 a1 x5_1 0 1 x8_1 = some r) ∧ Aside0 (kq ≤ k) ∧ Aside0 (Kd.R (Kd.int .u32) 37 w' w.heap.size (fun _ => True) v5 x5_1) ∧ Aside0 (Below w.heap.size w w'))
  case atStart => exact ⟨(y283), (0), (by first | rfl | (simp; done) | (simp [*]; done)), H', ⟨Nat.le_refl _⟩, ⟨by (with_reducible repeat (first | apply Kd.R_alloc | apply Kd.R_drewN | apply Kd.R_drew)); exact HO285.out⟩, ⟨by repeat (first | (with_reducible first | exact HB.out | apply below_alloc | apply pw_below_drewN | apply below_drew1) | exact HB.out)⟩⟩
  case round =>
    clear H'
    try clear p2
    try clear c3
    obtain ⟨x5_1, x8_1, rfl, HA, HK1, HO_5, HB⟩ := hrel
    cases gk with
    | zero => exact absurd HA.out (by simp [zigguratref01_Shl.l0])
    | succ k1 =>
      have H := HA.out
      clear HA
      simp only [zigguratref01_Shl.l0] at H
      by_cases c5 : x8_1 < (wrap64 (Int.tdiv a1 32))
      · rw [if_pos c5] at H
        have c5b0 : decide (x8_1 < (wrap64 (Int.tdiv a1 32))) = true := decide_eq_true c5
        clear c5
        by_cases c6 : x5_1.length < 35184372088832
        · rw [if_pos c6] at H
          have LMc6 := Aside0.mk c6
          clear c6
          obtain ⟨y286, hy286⟩ : ∃ y_ : List Int, y_ = (x5_1 ++ [0]) := ⟨_, rfl⟩
          replace H : (zigguratref01_Shl.l0 k1 l0 a1 y286 0 1 (wrap64 (x8_1 + 1))) = some r := by first | (rw [hy286]; with_reducible exact H) | (have H2_ := (Option.bind_some _ _).symm.trans H; rw [hy286]; with_reducible exact H2_) | (have H2_ := (Option.bind_some _ _).symm.trans H; with_reducible exact H2_) | with_reducible exact H | (rw [hy286]; exact H) | exact H
          have Ny286 := Aside0.mk hy286
          clear hy286
          have H' := Aside0.mk H
          clear H
          go_wp2_with (first | ((with_reducible refine gate_builtin (b := .append) (xs := #[.tmp 19, .tmp 20]) rfl ?_); at_builtin; refine Kd.R_append (Kd.int .u32) (w0 := w) w.heap.size rfl (.tmp 19) (.tmp 20) 22 37 (.int .u32 0) 4 rfl Try.underlying22 info37 rfl (by decide) (by omega) u5 x5_1 0 [.int .u32 0] (fun _ => True) (fun _ => False) rfl rfl ?aP (fun _ hk => hk.elim) ?aF ?aO ?aB ?aS ?aL ?_; (case aP => exact rfl); (case aB => exact (by repeat (first | (with_reducible first | exact HB.out | apply below_alloc | apply pw_below_drewN | apply below_drew1) | exact HB.out))); (case aF => exact (fun _ _ => trivial)); (case aO => exact (by (with_reducible repeat (first | apply Kd.R_alloc | apply Kd.R_drewN | apply Kd.R_drew)); exact HO_5.out)); (case aS => exact (below_size (by repeat (first | (with_reducible first | exact HB.out | apply below_alloc | apply pw_below_drewN | apply below_drew1) | exact HB.out)))); (case aL => have := LMc6.out; omega); intro v287 w7 ho hb hg hat; rw [← Ny286.out] at ho; have n0_ := Aside0.mk (hb); have n1_ := Aside0.mk (ho); clear HB; clear HO_5; have HB := n0_; have HO288 := n1_; clear n0_ n1_; clear ho hb hg hat))
          go_roundg k1
          case measure => have := HK1.out; omega
          case rel => exact ⟨(y286), (wrap64 (x8_1 + 1)), (by first | rfl | (simp; done) | (simp [*]; done)), (by first | exact H' | (subst_vars; exact H')), ⟨by have := HK1.out; omega⟩, ⟨by (with_reducible repeat (first | apply Kd.R_alloc | apply Kd.R_drewN | apply Kd.R_drew)); exact HO288.out⟩, ⟨by repeat (first | (with_reducible first | exact HB.out | apply below_alloc | apply pw_below_drewN | apply below_drew1) | exact HB.out)⟩⟩
        · rw [if_neg c6] at H
          exact absurd H (by simp)
      · rw [if_neg c5] at H
        have c5b0 : decide (x8_1 < (wrap64 (Int.tdiv a1 32))) = false := decide_eq_false c5
        clear c5
        have H' := Aside0.mk H
        clear H
        go_wp2
        go_loopg [7, 9] k1 (fun kq v7 v9 w' => ∃ (x7_2 : Int) (x9_2 : Int), v7 = .int .u64 x7_2 ∧ v9 = .int .i64 x9_2 ∧ Aside0 (zigguratref01_Shl.l1 kq l0 a1 x5_1 0 x7_2 x9_2 = some r) ∧ Aside0 (kq ≤ k1) ∧ Aside0 (Kd.R (Kd.int .u32) 37 w' w.heap.size (fun _ => True) u5 x5_1) ∧ Aside0 (Below w.heap.size w w'))
        case atStart => exact ⟨(1), (0), (by first | rfl | (simp; done) | (simp [*]; done)), (by first | rfl | (simp; done) | (simp [*]; done)), H', ⟨Nat.le_refl _⟩, ⟨by (with_reducible repeat (first | apply Kd.R_alloc | apply Kd.R_drewN | apply Kd.R_drew)); exact HO_5.out⟩, ⟨by repeat (first | (with_reducible first | exact HB.out | apply below_alloc | apply pw_below_drewN | apply below_drew1) | exact HB.out)⟩⟩
        case round =>
          clear H'
          try clear p2
          try clear c3
          try clear c5
          try clear c5b0
          try clear c6
          try clear p6
          try clear p2
          obtain ⟨x7_2, x9_2, rfl, rfl, HA, HK2, HO_5, HB⟩ := hrel
          cases gk with
          | zero => exact absurd HA.out (by simp [zigguratref01_Shl.l1])
          | succ k2 =>
            have H := HA.out
            clear HA
            simp only [zigguratref01_Shl.l1] at H
            by_cases c8 : x9_2 < (Int.tmod a1 32)
            · rw [if_pos c8] at H
              have c8b0 : decide (x9_2 < (Int.tmod a1 32)) = true := decide_eq_true c8
              clear c8
              have H' := Aside0.mk H
              clear H
              go_wp2
              go_roundg k2
              case measure => have := HK1.out; have := HK2.out; omega
              case rel => exact ⟨(IntKind.u64.wrap (2 * x7_2)), (wrap64 (x9_2 + 1)), (by first | rfl | (simp; done) | (simp [*]; done)), (by first | rfl | (simp; done) | (simp [*]; done)), (by first | exact H' | (subst_vars; exact H')), ⟨by have := HK1.out; have := HK2.out; omega⟩, ⟨by (with_reducible repeat (first | apply Kd.R_alloc | apply Kd.R_drewN | apply Kd.R_drew)); exact HO_5.out⟩, ⟨by repeat (first | (with_reducible first | exact HB.out | apply below_alloc | apply pw_below_drewN | apply below_drew1) | exact HB.out)⟩⟩
            · rw [if_neg c8] at H
              have c8b0 : decide (x9_2 < (Int.tmod a1 32)) = false := decide_eq_false c8
              clear c8
              have H' := Aside0.mk H
              clear H
              go_wp2
              go_loopg [5, 6, 10] k2 (fun kq v5 v6 v10 w' => ∃ (x5_3 : List Int) (x6_3 : Int) (x10_3 : Int), v6 = .int .u64 x6_3 ∧ v10 = .int .i64 x10_3 ∧ Aside0 (zigguratref01_Shl.l2 kq l0 x5_3 x6_3 x7_2 x10_3 = some r) ∧ Aside0 (kq ≤ k2) ∧ Aside0 (Kd.R (Kd.int .u32) 37 w' w.heap.size (fun _ => True) v5 x5_3) ∧ Aside0 (Below w.heap.size w w'))
              case atStart => exact ⟨(x5_1), (0), (0), (by first | rfl | (simp; done) | (simp [*]; done)), (by first | rfl | (simp; done) | (simp [*]; done)), H', ⟨Nat.le_refl _⟩, ⟨by (with_reducible repeat (first | apply Kd.R_alloc | apply Kd.R_drewN | apply Kd.R_drew)); exact HO_5.out⟩, ⟨by repeat (first | (with_reducible first | exact HB.out | apply below_alloc | apply pw_below_drewN | apply below_drew1) | exact HB.out)⟩⟩
              case round =>
                clear H'
                try clear p2
                try clear c3
                try clear c5
                try clear c5b0
                try clear c6
                try clear p6
                try clear c8
                try clear c8b0
                try clear p2
                try clear p6
                obtain ⟨x5_3, x6_3, x10_3, rfl, rfl, HA, HK3, HO_5, HB⟩ := hrel
                cases gk with
                | zero => exact absurd HA.out (by simp [zigguratref01_Shl.l2])
                | succ k3 =>
                  have H := HA.out
                  clear HA
                  simp only [zigguratref01_Shl.l2] at H
                  by_cases c9 : x10_3 ≤ (l0.length : Int)
                  · rw [if_pos c9] at H
                    have c9b0 : decide (x10_3 ≤ (l0.length : Int)) = true := decide_eq_true c9
                    clear c9
                    replace H := Option.bind_eq_some_iff.mp H
                    obtain ⟨t289, A100, H⟩ := H
                    replace H : (if x5_3.length < 35184372088832 then (zigguratref01_Shl.l2 k3 l0 (x5_3 ++ [(Int.tmod (IntKind.u64.wrap ((IntKind.u64.wrap (t289 * x7_2)) + x6_3)) 4294967296) % 4294967296]) (IntKind.u64.wrap (Int.tdiv (IntKind.u64.wrap ((IntKind.u64.wrap (t289 * x7_2)) + x6_3)) 4294967296)) x7_2 (wrap64 (x10_3 + 1))) else (none)) = some r := H
                    have A10 := Aside0.mk A100
                    clear A100
                    by_cases c11 : x5_3.length < 35184372088832
                    · rw [if_pos c11] at H
                      have LMc11 := Aside0.mk c11
                      clear c11
                      obtain ⟨y290, hy290⟩ : ∃ y_ : List Int, y_ = (x5_3 ++ [(Int.tmod (IntKind.u64.wrap ((IntKind.u64.wrap (t289 * x7_2)) + x6_3)) 4294967296) % 4294967296]) := ⟨_, rfl⟩
                      replace H : (zigguratref01_Shl.l2 k3 l0 y290 (IntKind.u64.wrap (Int.tdiv (IntKind.u64.wrap ((IntKind.u64.wrap (t289 * x7_2)) + x6_3)) 4294967296)) x7_2 (wrap64 (x10_3 + 1))) = some r := by first | (rw [hy290]; with_reducible exact H) | (have H2_ := (Option.bind_some _ _).symm.trans H; rw [hy290]; with_reducible exact H2_) | (have H2_ := (Option.bind_some _ _).symm.trans H; with_reducible exact H2_) | with_reducible exact H | (rw [hy290]; exact H) | exact H
                      have Ny290 := Aside0.mk hy290
                      clear hy290
                      have H' := Aside0.mk H
                      clear H
                      go_wp2_with (first | ((with_reducible refine gate_callee (f := 39) rfl ?_); refine goesL_ (some 38) rfl rfl Try.func39 (by kernel_rfl) rfl #[.slice A0 l0.length c0, .int .i64 x10_3] rfl (by (try simp only [List.map_toArray, List.map_cons, List.map_nil]); first | done | rfl | (simp only [List.length_drop, List.length_take]; rfl)) ?_; (with_reducible refine (zigguratref01_limb.calls _ _ l0 x10_3 t289 _ ?side1 ?side2 A10.out).mono ?_); (case side1 => repeat (first | exact (Kd.C_below HR0.out HB.out) | (with_reducible refine Kd.C_alloc ?_ _) | (with_reducible refine Kd.C_drewN ?_ _) | (with_reducible refine Kd.C_drew ?_))); (case side2 => exact HC0.out); rintro e w' ⟨rfl, ⟨nd, rfl⟩⟩; refine ⟨_, rfl, ?_⟩) | ((with_reducible refine gate_builtin (b := .append) (xs := #[.tmp 43, .tmp 47]) rfl ?_); at_builtin; refine Kd.R_append (Kd.int .u32) (w0 := w) w.heap.size rfl (.tmp 43) (.tmp 47) 22 37 (.int .u32 0) 4 rfl Try.underlying22 info37 rfl (by decide) (by omega) u5 x5_3 ((Int.tmod (IntKind.u64.wrap ((IntKind.u64.wrap (t289 * x7_2)) + x6_3)) 4294967296) % 4294967296) [.int .u32 ((Int.tmod (IntKind.u64.wrap ((IntKind.u64.wrap (t289 * x7_2)) + x6_3)) 4294967296) % 4294967296)] (fun _ => True) (fun _ => False) rfl rfl ?aP (fun _ hk => hk.elim) ?aF ?aO ?aB ?aS ?aL ?_; (case aP => exact rfl); (case aB => exact (by repeat (first | (with_reducible first | exact HB.out | apply below_alloc | apply pw_below_drewN | apply below_drew1) | exact HB.out))); (case aF => exact (fun _ _ => trivial)); (case aO => exact (by (with_reducible repeat (first | apply Kd.R_alloc | apply Kd.R_drewN | apply Kd.R_drew)); exact HO_5.out)); (case aS => exact (below_size (by repeat (first | (with_reducible first | exact HB.out | apply below_alloc | apply pw_below_drewN | apply below_drew1) | exact HB.out)))); (case aL => have := LMc11.out; omega); intro v291 w12 ho hb hg hat; rw [← Ny290.out] at ho; have n0_ := Aside0.mk (hb); have n1_ := Aside0.mk (ho); clear HB; clear HO_5; have HB := n0_; have HO292 := n1_; clear n0_ n1_; clear ho hb hg hat))
                      go_roundg k3
                      case measure => have := HK1.out; have := HK2.out; have := HK3.out; omega
                      case rel => exact ⟨(y290), (IntKind.u64.wrap (Int.tdiv (IntKind.u64.wrap ((IntKind.u64.wrap (t289 * x7_2)) + x6_3)) 4294967296)), (wrap64 (x10_3 + 1)), (by first | rfl | (simp; done) | (simp [*]; done)), (by first | rfl | (simp; done) | (simp [*]; done)), (by first | exact H' | (subst_vars; exact H')), ⟨by have := HK1.out; have := HK2.out; have := HK3.out; omega⟩, ⟨by (with_reducible repeat (first | apply Kd.R_alloc | apply Kd.R_drewN | apply Kd.R_drew)); exact HO292.out⟩, ⟨by repeat (first | (with_reducible first | exact HB.out | apply below_alloc | apply pw_below_drewN | apply below_drew1) | exact HB.out)⟩⟩
                    · rw [if_neg c11] at H
                      exact absurd H (by simp)
                  · rw [if_neg c9] at H
                    have c9b0 : decide (x10_3 ≤ (l0.length : Int)) = false := decide_eq_false c9
                    clear c9
                    replace H := Option.bind_eq_some_iff.mp H
                    obtain ⟨t293, A130, H⟩ := H
                    replace H : (some t293) = some r := H
                    have A13 := Aside0.mk A130
                    clear A130
                    obtain rfl := Option.some.inj H
                    obtain ⟨Ao14, co14, eo14⟩ := Kd.R_slice HO_5.out
                    subst eo14
                    go_wp2_with (first | ((with_reducible refine gate_callee (f := 17) rfl ?_); refine goesL_ (some 52) rfl rfl Try.func17 (by kernel_rfl) rfl #[.slice Ao14 x5_3.length co14] rfl (by (try simp only [List.map_toArray, List.map_cons, List.map_nil]); first | done | rfl | (simp only [List.length_drop, List.length_take]; rfl)) ?_; (with_reducible refine (zigguratref01_Make.calls k3 _ _ x5_3 t293 _ ?side1 ?side2 A13.out).mono ?_); (case side1 => repeat (first | exact (Kd.R_reads' HO_5.out).2.2 | (with_reducible refine Kd.C_alloc ?_ _) | (with_reducible refine Kd.C_drewN ?_ _) | (with_reducible refine Kd.C_drew ?_))); (case side2 => exact (Kd.R_reads' HO_5.out).2.1); rintro e w15 ⟨v294, rfl, ho0, hb⟩; refine ⟨_, rfl, ?_⟩; have n0_ := Aside0.mk (Kd.R_elder' (by (with_reducible repeat (first | apply Kd.R_alloc | apply Kd.R_drewN | apply Kd.R_drew)); exact HO_5.out) (Kd.R_base ho0) hb); have n1_ := Aside0.mk (Kd.R_lower (Kd.R_new' ho0 (Kd.R_lt (by (with_reducible repeat (first | apply Kd.R_alloc | apply Kd.R_drewN | apply Kd.R_drew)); exact HO_5.out))) (below_size (by repeat (first | (with_reducible first | exact HB.out | apply below_alloc | apply pw_below_drewN | apply below_drew1) | exact HB.out)))); have n2_ := Aside0.mk (below_step (by repeat (first | (with_reducible first | exact HB.out | apply below_alloc | apply pw_below_drewN | apply below_drew1) | exact HB.out)) hb); clear HO_5; clear HB; have HO_5 := n0_; have HO295 := n1_; have HB := n2_; clear n0_ n1_ n2_; (try clear hb); (try clear hb2); (try clear hk); (try clear hi); (try clear ho0)))
                    go_ret
                    exact ⟨_, by first | rfl | (simp [errW_none, errW_some] <;> rfl) | (simp [*, errW_none, errW_some] <;> rfl), by (with_reducible repeat (first | apply Kd.R_alloc | apply Kd.R_drewN | apply Kd.R_drew)); exact Kd.R_mono HO295.out (fun _ hk => trivial), by repeat (first | (with_reducible first | exact HB.out | apply below_alloc | apply pw_below_drewN | apply below_drew1) | exact HB.out)⟩

/-! ### zigguratref01_Shr: function 33 -/
mutual
def zigguratref01_Shr.l0 : Nat → List Int → Int → List Int → Int → Int → Option (List Int)
  | 0, _, _, _, _, _ => none
  | k + 1, x0, x1, x5, x6, x7 => if x7 < (Int.tmod x1 32) then (zigguratref01_Shr.l0 k x0 x1 x5 (IntKind.u64.wrap (2 * x6)) (wrap64 (x7 + 1))) else (zigguratref01_Shr.l1 k x0 x5 x6 (wrap64 (Int.tdiv x1 32)))
def zigguratref01_Shr.l1 : Nat → List Int → List Int → Int → Int → Option (List Int)
  | 0, _, _, _, _ => none
  | k + 1, x0, x5, x6, x8 => if x8 < (x0.length : Int) then ((zigguratref01_limb.f x0 x8).bind fun t299 => ((zigguratref01_limb.f x0 (wrap64 (x8 + 1))).bind fun t300 => (if x6 = 0 then (none) else (if x5.length < 35184372088832 then (zigguratref01_Shr.l1 k x0 (x5 ++ [(Int.tmod (IntKind.u64.wrap (Int.tdiv (IntKind.u64.wrap (t299 + (IntKind.u64.wrap (4294967296 * (Int.tmod t300 x6))))) x6)) 4294967296) % 4294967296]) x6 (wrap64 (x8 + 1))) else (none))))) else ((zigguratref01_Make.f k x5).bind fun t304 => (some t304))
end
def zigguratref01_Shr.f (k : Nat) (l0 : List Int) (a1 : Int) : Option (List Int) := zigguratref01_Shr.l0 k l0 a1 (([] : List Int)) 1 0
theorem zigguratref01_Shr.mono_l : ∀ k, (∀ y0 y1 y2 y3 y4, LeO (zigguratref01_Shr.l0 k y0 y1 y2 y3 y4) (zigguratref01_Shr.l0 (k + 1) y0 y1 y2 y3 y4)) ∧ (∀ y0 y1 y2 y3, LeO (zigguratref01_Shr.l1 k y0 y1 y2 y3) (zigguratref01_Shr.l1 (k + 1) y0 y1 y2 y3))
  | 0 => ⟨fun _ _ _ _ _ r h => by simp [zigguratref01_Shr.l0] at h, fun _ _ _ _ r h => by simp [zigguratref01_Shr.l1] at h⟩
  | k + 1 => by
    obtain ⟨ih0, ih1⟩ := zigguratref01_Shr.mono_l k
    refine ⟨?_, ?_⟩
    · intro y0 y1 y2 y3 y4
      unfold zigguratref01_Shr.l0
      repeat' first
      | (with_reducible exact ih0 _ _ _ _ _)
      | (with_reducible exact ih1 _ _ _ _)
      | (with_reducible exact zigguratref01_Make.mono _ _)
      | (with_reducible exact LeO.refl _)
      | (with_reducible exact LeO.none _)
      | (with_reducible refine LeO.ite ?_ ?_)
      | (with_reducible refine LeO.bind ?_ (fun _ => ?_))
      | exact ih0 _ _ _ _ _
      | exact ih1 _ _ _ _
      | exact zigguratref01_Make.mono _ _
      | exact LeO.none _
      | refine LeO.ite ?_ ?_
      | refine LeO.bind ?_ (fun _ => ?_)
    · intro y0 y1 y2 y3
      unfold zigguratref01_Shr.l1
      repeat' first
      | (with_reducible exact ih0 _ _ _ _ _)
      | (with_reducible exact ih1 _ _ _ _)
      | (with_reducible exact zigguratref01_Make.mono _ _)
      | (with_reducible exact LeO.refl _)
      | (with_reducible exact LeO.none _)
      | (with_reducible refine LeO.ite ?_ ?_)
      | (with_reducible refine LeO.bind ?_ (fun _ => ?_))
      | exact ih0 _ _ _ _ _
      | exact ih1 _ _ _ _
      | exact zigguratref01_Make.mono _ _
      | exact LeO.none _
      | refine LeO.ite ?_ ?_
      | refine LeO.bind ?_ (fun _ => ?_)
theorem zigguratref01_Shr.mono : ∀ a0 a1 k, LeO (zigguratref01_Shr.f k a0 a1) (zigguratref01_Shr.f (k + 1) a0 a1) := by
  intro a0 a1 k
  obtain ⟨ih0, ih1⟩ := zigguratref01_Shr.mono_l k
  unfold zigguratref01_Shr.f
  repeat' first
      | (with_reducible exact ih0 _ _ _ _ _)
      | (with_reducible exact ih1 _ _ _ _)
      | (with_reducible exact zigguratref01_Make.mono _ _)
      | (with_reducible exact LeO.refl _)
      | (with_reducible exact LeO.none _)
      | (with_reducible refine LeO.ite ?_ ?_)
      | (with_reducible refine LeO.bind ?_ (fun _ => ?_))
      | exact ih0 _ _ _ _ _
      | exact ih1 _ _ _ _
      | exact zigguratref01_Make.mono _ _
      | exact LeO.none _
      | refine LeO.ite ?_ ?_
      | refine LeO.bind ?_ (fun _ => ?_)
set_option maxHeartbeats 8000000 in
set_option maxRecDepth 100000 in
theorem zigguratref01_Shr.calls (k : Nat) (A0 : Option Addr) (c0 : Nat) (l0 : List Int) (a1 : Int) (r : List Int) (w : World) (hr0 : Kd.C (Kd.int .u32) w A0 l0.length l0) (hc0 : l0.length ≤ c0) (h : zigguratref01_Shr.f k l0 a1 = some r) :
    Calls Try.prog 33 #[.slice A0 l0.length c0, .int .i64 a1] w fun e w' => ∃ v0_ : Value, e = .returned (v0_) ∧ Kd.R (Kd.int .u32) 37 w' w.heap.size (fun _ => True) v0_ r ∧ Below w.heap.size w w' := by
  have HR0 := Aside0.mk hr0
  have HC0 := Aside0.mk hc0
  clear hr0 hc0
  have HB := Aside0.mk (Below.refl w.heap.size w)
  have H : (zigguratref01_Shr.l0 k l0 a1 (([] : List Int)) 1 0) = some r := h
  clear h
  obtain ⟨y296, hy296⟩ : ∃ y_ : List Int, y_ = (([] : List Int)) := ⟨_, rfl⟩
  replace H : (zigguratref01_Shr.l0 k l0 a1 y296 1 0) = some r := by first | (rw [hy296]; with_reducible exact H) | (have H2_ := (Option.bind_some _ _).symm.trans H; rw [hy296]; with_reducible exact H2_) | (have H2_ := (Option.bind_some _ _).symm.trans H; with_reducible exact H2_) | with_reducible exact H | (rw [hy296]; exact H) | exact H
  have Ny296 := Aside0.mk hy296
  clear hy296
  have H' := Aside0.mk H
  clear H
  go_enter Try.func33, Try.ntmps33
  go_wp2_with (first | ((with_reducible refine gate_dst (N := 10) rfl ?_); refine Kd.R_lit (Kd.int .u32) _ 37 ?hg (N := 10) ?hd (xs := ([] : List Int)) (inner := []) (ok := fun _ => True) (okp := fun _ => True) ?hr ?hp (fun _ hk => hk) trivial (Below.refl _ _) (Nat.le_refl _) (by simp) ?_; (case hd => rfl); (case hg => rfl); (case hr => first | (go_simp; done) | (go_simp; rfl)); (case hp => exact (Reps.none _ _)); intro v297 w3 ho4 hb hg_ hnew_; clear hg_ hnew_; (first | rw [← Ny296.out] at ho4 | (simp only [Int.reduceToNat] at ho4; rw [← Ny296.out] at ho4)); have n0_ := Aside0.mk (Kd.R_lower ho4 (below_size (by repeat (first | (with_reducible first | exact HB.out | apply below_alloc | apply pw_below_drewN | apply below_drew1) | exact HB.out)))); have n1_ := Aside0.mk (below_step (by repeat (first | (with_reducible first | exact HB.out | apply below_alloc | apply pw_below_drewN | apply below_drew1) | exact HB.out)) hb); clear HB; have HO298 := n0_; have HB := n1_; clear n0_ n1_; clear hb ho4))
  go_loopg [6, 7] k (fun kq v6 v7 w' => ∃ (x6_1 : Int) (x7_1 : Int), v6 = .int .u64 x6_1 ∧ v7 = .int .i64 x7_1 ∧ Aside0 (zigguratref01_Shr.l0 kq l0 a1 y296 x6_1 x7_1 = some r) ∧ Aside0 (kq ≤ k) ∧ Aside0 (Kd.R (Kd.int .u32) 37 w' w.heap.size (fun _ => True) v297 y296) ∧ Aside0 (Below w.heap.size w w'))
  case atStart => exact ⟨(1), (0), (by first | rfl | (simp; done) | (simp [*]; done)), (by first | rfl | (simp; done) | (simp [*]; done)), H', ⟨Nat.le_refl _⟩, ⟨by (with_reducible repeat (first | apply Kd.R_alloc | apply Kd.R_drewN | apply Kd.R_drew)); exact HO298.out⟩, ⟨by repeat (first | (with_reducible first | exact HB.out | apply below_alloc | apply pw_below_drewN | apply below_drew1) | exact HB.out)⟩⟩
  case round =>
    clear H'
    try clear p2
    try clear c3
    obtain ⟨x6_1, x7_1, rfl, rfl, HA, HK1, HO_5, HB⟩ := hrel
    cases gk with
    | zero => exact absurd HA.out (by simp [zigguratref01_Shr.l0])
    | succ k1 =>
      have H := HA.out
      clear HA
      simp only [zigguratref01_Shr.l0] at H
      by_cases c5 : x7_1 < (Int.tmod a1 32)
      · rw [if_pos c5] at H
        have c5b0 : decide (x7_1 < (Int.tmod a1 32)) = true := decide_eq_true c5
        clear c5
        have H' := Aside0.mk H
        clear H
        go_wp2
        go_roundg k1
        case measure => have := HK1.out; omega
        case rel => exact ⟨(IntKind.u64.wrap (2 * x6_1)), (wrap64 (x7_1 + 1)), (by first | rfl | (simp; done) | (simp [*]; done)), (by first | rfl | (simp; done) | (simp [*]; done)), (by first | exact H' | (subst_vars; exact H')), ⟨by have := HK1.out; omega⟩, ⟨by (with_reducible repeat (first | apply Kd.R_alloc | apply Kd.R_drewN | apply Kd.R_drew)); exact HO_5.out⟩, ⟨by repeat (first | (with_reducible first | exact HB.out | apply below_alloc | apply pw_below_drewN | apply below_drew1) | exact HB.out)⟩⟩
      · rw [if_neg c5] at H
        have c5b0 : decide (x7_1 < (Int.tmod a1 32)) = false := decide_eq_false c5
        clear c5
        have H' := Aside0.mk H
        clear H
        go_wp2
        go_loopg [5, 8] k1 (fun kq v5 v8 w' => ∃ (x5_2 : List Int) (x8_2 : Int), v8 = .int .i64 x8_2 ∧ Aside0 (zigguratref01_Shr.l1 kq l0 x5_2 x6_1 x8_2 = some r) ∧ Aside0 (kq ≤ k1) ∧ Aside0 (Kd.R (Kd.int .u32) 37 w' w.heap.size (fun _ => True) v5 x5_2) ∧ Aside0 (Below w.heap.size w w'))
        case atStart => exact ⟨(y296), (wrap64 (Int.tdiv a1 32)), (by first | rfl | (simp; done) | (simp [*]; done)), H', ⟨Nat.le_refl _⟩, ⟨by (with_reducible repeat (first | apply Kd.R_alloc | apply Kd.R_drewN | apply Kd.R_drew)); exact HO_5.out⟩, ⟨by repeat (first | (with_reducible first | exact HB.out | apply below_alloc | apply pw_below_drewN | apply below_drew1) | exact HB.out)⟩⟩
        case round =>
          clear H'
          try clear p2
          try clear c3
          try clear c5
          try clear c5b0
          try clear p2
          obtain ⟨x5_2, x8_2, rfl, HA, HK2, HO_5, HB⟩ := hrel
          cases gk with
          | zero => exact absurd HA.out (by simp [zigguratref01_Shr.l1])
          | succ k2 =>
            have H := HA.out
            clear HA
            simp only [zigguratref01_Shr.l1] at H
            by_cases c6 : x8_2 < (l0.length : Int)
            · rw [if_pos c6] at H
              have c6b0 : decide (x8_2 < (l0.length : Int)) = true := decide_eq_true c6
              clear c6
              replace H := Option.bind_eq_some_iff.mp H
              obtain ⟨t299, A70, H⟩ := H
              replace H : ((zigguratref01_limb.f l0 (wrap64 (x8_2 + 1))).bind fun t300 => (if x6_1 = 0 then (none) else (if x5_2.length < 35184372088832 then (zigguratref01_Shr.l1 k2 l0 (x5_2 ++ [(Int.tmod (IntKind.u64.wrap (Int.tdiv (IntKind.u64.wrap (t299 + (IntKind.u64.wrap (4294967296 * (Int.tmod t300 x6_1))))) x6_1)) 4294967296) % 4294967296]) x6_1 (wrap64 (x8_2 + 1))) else (none)))) = some r := H
              have A7 := Aside0.mk A70
              clear A70
              replace H := Option.bind_eq_some_iff.mp H
              obtain ⟨t300, A80, H⟩ := H
              replace H : (if x6_1 = 0 then (none) else (if x5_2.length < 35184372088832 then (zigguratref01_Shr.l1 k2 l0 (x5_2 ++ [(Int.tmod (IntKind.u64.wrap (Int.tdiv (IntKind.u64.wrap (t299 + (IntKind.u64.wrap (4294967296 * (Int.tmod t300 x6_1))))) x6_1)) 4294967296) % 4294967296]) x6_1 (wrap64 (x8_2 + 1))) else (none))) = some r := H
              have A8 := Aside0.mk A80
              clear A80
              by_cases c9 : x6_1 = 0
              · rw [if_pos c9] at H
                exact absurd H (by simp)
              · rw [if_neg c9] at H
                have c9b0 : (x6_1 == 0) = false := beq_eq_false_iff_ne.mpr c9
                have c9b1 : (x6_1 != 0) = true := bne_iff_ne.mpr c9
                by_cases c10 : x5_2.length < 35184372088832
                · rw [if_pos c10] at H
                  have LMc10 := Aside0.mk c10
                  clear c10
                  obtain ⟨y301, hy301⟩ : ∃ y_ : List Int, y_ = (x5_2 ++ [(Int.tmod (IntKind.u64.wrap (Int.tdiv (IntKind.u64.wrap (t299 + (IntKind.u64.wrap (4294967296 * (Int.tmod t300 x6_1))))) x6_1)) 4294967296) % 4294967296]) := ⟨_, rfl⟩
                  replace H : (zigguratref01_Shr.l1 k2 l0 y301 x6_1 (wrap64 (x8_2 + 1))) = some r := by first | (rw [hy301]; with_reducible exact H) | (have H2_ := (Option.bind_some _ _).symm.trans H; rw [hy301]; with_reducible exact H2_) | (have H2_ := (Option.bind_some _ _).symm.trans H; with_reducible exact H2_) | with_reducible exact H | (rw [hy301]; exact H) | exact H
                  have Ny301 := Aside0.mk hy301
                  clear hy301
                  have H' := Aside0.mk H
                  clear H
                  go_wp2_with (first | ((with_reducible refine gate_callee (f := 39) rfl ?_); refine goesL_ (some 29) rfl rfl Try.func39 (by kernel_rfl) rfl #[.slice A0 l0.length c0, .int .i64 x8_2] rfl (by (try simp only [List.map_toArray, List.map_cons, List.map_nil]); first | done | rfl | (simp only [List.length_drop, List.length_take]; rfl)) ?_; (with_reducible refine (zigguratref01_limb.calls _ _ l0 x8_2 t299 _ ?side1 ?side2 A7.out).mono ?_); (case side1 => repeat (first | exact (Kd.C_below HR0.out HB.out) | (with_reducible refine Kd.C_alloc ?_ _) | (with_reducible refine Kd.C_drewN ?_ _) | (with_reducible refine Kd.C_drew ?_))); (case side2 => exact HC0.out); rintro e w' ⟨rfl, ⟨nd, rfl⟩⟩; refine ⟨_, rfl, ?_⟩) | ((with_reducible refine gate_callee (f := 39) rfl ?_); refine goesL_ (some 33) rfl rfl Try.func39 (by kernel_rfl) rfl #[.slice A0 l0.length c0, .int .i64 (wrap64 (x8_2 + 1))] rfl (by (try simp only [List.map_toArray, List.map_cons, List.map_nil]); first | done | rfl | (simp only [List.length_drop, List.length_take]; rfl)) ?_; (with_reducible refine (zigguratref01_limb.calls _ _ l0 (wrap64 (x8_2 + 1)) t300 _ ?side1 ?side2 A8.out).mono ?_); (case side1 => repeat (first | exact (Kd.C_below HR0.out (by repeat (first | (with_reducible first | exact HB.out | apply below_alloc | apply pw_below_drewN | apply below_drew1) | exact HB.out))) | (with_reducible refine Kd.C_alloc ?_ _) | (with_reducible refine Kd.C_drewN ?_ _) | (with_reducible refine Kd.C_drew ?_))); (case side2 => exact HC0.out); rintro e w' ⟨rfl, ⟨nd, rfl⟩⟩; refine ⟨_, rfl, ?_⟩) | ((with_reducible refine gate_builtin (b := .append) (xs := #[.tmp 38, .tmp 44]) rfl ?_); at_builtin; refine Kd.R_append (Kd.int .u32) (w0 := w) w.heap.size rfl (.tmp 38) (.tmp 44) 22 37 (.int .u32 0) 4 rfl Try.underlying22 info37 rfl (by decide) (by omega) u5 x5_2 ((Int.tmod (IntKind.u64.wrap (Int.tdiv (IntKind.u64.wrap (t299 + (IntKind.u64.wrap (4294967296 * (Int.tmod t300 x6_1))))) x6_1)) 4294967296) % 4294967296) [.int .u32 ((Int.tmod (IntKind.u64.wrap (Int.tdiv (IntKind.u64.wrap (t299 + (IntKind.u64.wrap (4294967296 * (Int.tmod t300 x6_1))))) x6_1)) 4294967296) % 4294967296)] (fun _ => True) (fun _ => False) rfl rfl ?aP (fun _ hk => hk.elim) ?aF ?aO ?aB ?aS ?aL ?_; (case aP => exact rfl); (case aB => exact (by repeat (first | (with_reducible first | exact HB.out | apply below_alloc | apply pw_below_drewN | apply below_drew1) | exact HB.out))); (case aF => exact (fun _ _ => trivial)); (case aO => exact (by (with_reducible repeat (first | apply Kd.R_alloc | apply Kd.R_drewN | apply Kd.R_drew)); exact HO_5.out)); (case aS => exact (below_size (by repeat (first | (with_reducible first | exact HB.out | apply below_alloc | apply pw_below_drewN | apply below_drew1) | exact HB.out)))); (case aL => have := LMc10.out; omega); intro v302 w11 ho hb hg hat; rw [← Ny301.out] at ho; have n0_ := Aside0.mk (hb); have n1_ := Aside0.mk (ho); clear HB; clear HO_5; have HB := n0_; have HO303 := n1_; clear n0_ n1_; clear ho hb hg hat))
                  go_roundg k2
                  case measure => have := HK1.out; have := HK2.out; omega
                  case rel => exact ⟨(y301), (wrap64 (x8_2 + 1)), (by first | rfl | (simp; done) | (simp [*]; done)), (by first | exact H' | (subst_vars; exact H')), ⟨by have := HK1.out; have := HK2.out; omega⟩, ⟨by (with_reducible repeat (first | apply Kd.R_alloc | apply Kd.R_drewN | apply Kd.R_drew)); exact HO303.out⟩, ⟨by repeat (first | (with_reducible first | exact HB.out | apply below_alloc | apply pw_below_drewN | apply below_drew1) | exact HB.out)⟩⟩
                · rw [if_neg c10] at H
                  exact absurd H (by simp)
            · rw [if_neg c6] at H
              have c6b0 : decide (x8_2 < (l0.length : Int)) = false := decide_eq_false c6
              clear c6
              replace H := Option.bind_eq_some_iff.mp H
              obtain ⟨t304, A120, H⟩ := H
              replace H : (some t304) = some r := H
              have A12 := Aside0.mk A120
              clear A120
              obtain rfl := Option.some.inj H
              obtain ⟨Ao13, co13, eo13⟩ := Kd.R_slice HO_5.out
              subst eo13
              go_wp2_with (first | ((with_reducible refine gate_callee (f := 17) rfl ?_); refine goesL_ (some 47) rfl rfl Try.func17 (by kernel_rfl) rfl #[.slice Ao13 x5_2.length co13] rfl (by (try simp only [List.map_toArray, List.map_cons, List.map_nil]); first | done | rfl | (simp only [List.length_drop, List.length_take]; rfl)) ?_; (with_reducible refine (zigguratref01_Make.calls k2 _ _ x5_2 t304 _ ?side1 ?side2 A12.out).mono ?_); (case side1 => repeat (first | exact (Kd.R_reads' HO_5.out).2.2 | (with_reducible refine Kd.C_alloc ?_ _) | (with_reducible refine Kd.C_drewN ?_ _) | (with_reducible refine Kd.C_drew ?_))); (case side2 => exact (Kd.R_reads' HO_5.out).2.1); rintro e w14 ⟨v305, rfl, ho0, hb⟩; refine ⟨_, rfl, ?_⟩; have n0_ := Aside0.mk (Kd.R_elder' (by (with_reducible repeat (first | apply Kd.R_alloc | apply Kd.R_drewN | apply Kd.R_drew)); exact HO_5.out) (Kd.R_base ho0) hb); have n1_ := Aside0.mk (Kd.R_lower (Kd.R_new' ho0 (Kd.R_lt (by (with_reducible repeat (first | apply Kd.R_alloc | apply Kd.R_drewN | apply Kd.R_drew)); exact HO_5.out))) (below_size (by repeat (first | (with_reducible first | exact HB.out | apply below_alloc | apply pw_below_drewN | apply below_drew1) | exact HB.out)))); have n2_ := Aside0.mk (below_step (by repeat (first | (with_reducible first | exact HB.out | apply below_alloc | apply pw_below_drewN | apply below_drew1) | exact HB.out)) hb); clear HO_5; clear HB; have HO_5 := n0_; have HO306 := n1_; have HB := n2_; clear n0_ n1_ n2_; (try clear hb); (try clear hb2); (try clear hk); (try clear hi); (try clear ho0)))
              go_ret
              exact ⟨_, by first | rfl | (simp [errW_none, errW_some] <;> rfl) | (simp [*, errW_none, errW_some] <;> rfl), by (with_reducible repeat (first | apply Kd.R_alloc | apply Kd.R_drewN | apply Kd.R_drew)); exact Kd.R_mono HO306.out (fun _ hk => trivial), by repeat (first | (with_reducible first | exact HB.out | apply below_alloc | apply pw_below_drewN | apply below_drew1) | exact HB.out)⟩

-- NOT PRINTED: function 3 (zigguratlaw01_NatTells)

/-! ### zigguratref01_Made: function 34 -/
def zigguratref01_Made.f (k : Nat) (l0 : List Int) (a1 : Int) : Option (List Int) := if 0 ≤ (mn (l0.length : Int) a1) then (if (mn (l0.length : Int) a1) ≤ (l0.length : Int) then ((zigguratref01_Make.f k (l0.take ((mn (l0.length : Int) a1) : Int).toNat)).bind fun t308 => (some t308)) else (none)) else (none)
theorem zigguratref01_Made.mono : ∀ a0 a1 k, LeO (zigguratref01_Made.f k a0 a1) (zigguratref01_Made.f (k + 1) a0 a1) := by
  intro a0 a1 k
  unfold zigguratref01_Made.f
  repeat' first
      | (with_reducible exact zigguratref01_Make.mono _ _)
      | (with_reducible exact LeO.refl _)
      | (with_reducible exact LeO.none _)
      | (with_reducible refine LeO.ite ?_ ?_)
      | (with_reducible refine LeO.bind ?_ (fun _ => ?_))
      | exact zigguratref01_Make.mono _ _
      | exact LeO.none _
      | refine LeO.ite ?_ ?_
      | refine LeO.bind ?_ (fun _ => ?_)
set_option maxHeartbeats 8000000 in
set_option maxRecDepth 100000 in
theorem zigguratref01_Made.calls (k : Nat) (A0 : Option Addr) (c0 : Nat) (l0 : List Int) (a1 : Int) (r : List Int) (w : World) (hr0 : Kd.C (Kd.int .u32) w A0 l0.length l0) (hc0 : l0.length ≤ c0) (h : zigguratref01_Made.f k l0 a1 = some r) :
    Calls Try.prog 34 #[.slice A0 l0.length c0, .int .i64 a1] w fun e w' => ∃ v0_ : Value, e = .returned (v0_) ∧ Kd.R (Kd.int .u32) 37 w' w.heap.size (fun _ => True) v0_ r ∧ Below w.heap.size w w' := by
  have HR0 := Aside0.mk hr0
  have HC0 := Aside0.mk hc0
  clear hr0 hc0
  have HB := Aside0.mk (Below.refl w.heap.size w)
  have H : (if 0 ≤ (mn (l0.length : Int) a1) then (if (mn (l0.length : Int) a1) ≤ (l0.length : Int) then ((zigguratref01_Make.f k (l0.take ((mn (l0.length : Int) a1) : Int).toNat)).bind fun t308 => (some t308)) else (none)) else (none)) = some r := h
  clear h
  obtain ⟨ji3, hji3⟩ : ∃ j_ : Int, (mn (l0.length : Int) a1) = j_ := ⟨_, rfl⟩
  replace H : (if 0 ≤ (ji3) then (if (ji3) ≤ (l0.length : Int) then ((zigguratref01_Make.f k (l0.take ((ji3) : Int).toNat)).bind fun t308 => (some t308)) else (none)) else (none)) = some r := by first | (rw [hji3] at H; exact H) | (simp only [hji3] at H ⊢; exact H)
  have hji3_ : (if a1 < (l0.length : Int) then a1 else (l0.length : Int)) = ji3 := hji3
  have hji3n_ := hji3_
  (try simp only [Int.ofNat_lt] at hji3n_)
  by_cases c4 : 0 ≤ (ji3)
  · rw [if_pos c4] at H
    have c4b0 := eq_true c4
    have c4b1 : decide (0 ≤ (ji3)) = true := decide_eq_true c4
    clear c4
    by_cases c5 : (ji3) ≤ (l0.length : Int)
    · rw [if_pos c5] at H
      have c5b0 := eq_true c5
      have c5b1 : decide ((ji3) ≤ (l0.length : Int)) = true := decide_eq_true c5
      clear c5
      replace H := Option.bind_eq_some_iff.mp H
      obtain ⟨t308, A60, H⟩ := H
      replace H : (some t308) = some r := H
      have A6 := Aside0.mk A60
      clear A60
      obtain rfl := Option.some.inj H
      obtain ⟨i07, hi07, _, hsz7, _⟩ := info_parts info37
      obtain ⟨hcut7, hA7, hC7⟩ := print_take_of (P := Try.prog) (Value.int .u32) 0 22 37 .i64 Try.underlying22 hi07 hsz7 A0 c0 l0 (ji3) (of_decide_eq_true (by first | (with_reducible assumption) | assumption)) (of_decide_eq_true (by first | (with_reducible assumption) | assumption)) HC0.out
      have HR307 := Aside0.mk (Kd.C_of_reads (h1 := fun _ => rfl) (hA7 _ (Kd.reads_of_C HR0.out)))
      have HC307 := Aside0.mk hC7
      clear hA7 hC7 hi07 hsz7
      go_enter Try.func34, Try.ntmps34
      go_wp2_with (first | ((with_reducible refine gate_callee (f := 17) rfl ?_); refine goesL_ (some 11) rfl rfl Try.func17 (by kernel_rfl) rfl #[.slice A0 (l0.take ((ji3) : Int).toNat).length c0] rfl (by (try simp only [List.map_toArray, List.map_cons, List.map_nil]); first | done | (rw [show (l0.take ((ji3) : Int).toNat).length = (ji3).toNat from (by rw [List.length_take]; have h_ : ((ji3) : Int) ≤ (l0.length : Int) := of_decide_eq_true (by first | (with_reducible assumption) | assumption); omega)] <;> rfl) | (simp only [hji3]; rfl) | rfl | (simp only [List.length_drop, List.length_take]; rfl)) ?_; (with_reducible refine (zigguratref01_Make.calls k _ _ (l0.take ((ji3) : Int).toNat) t308 _ ?side1 ?side2 A6.out).mono ?_); (case side1 => repeat (first | exact HR307.out | (with_reducible refine Kd.C_alloc ?_ _) | (with_reducible refine Kd.C_drewN ?_ _) | (with_reducible refine Kd.C_drew ?_))); (case side2 => exact HC307.out); rintro e w8 ⟨v309, rfl, ho0, hb⟩; refine ⟨_, rfl, ?_⟩; have n0_ := Aside0.mk (Kd.R_lower ho0 (below_size (by repeat (first | (with_reducible first | exact HB.out | apply below_alloc | apply pw_below_drewN | apply below_drew1) | exact HB.out)))); have n1_ := Aside0.mk (below_step (by repeat (first | (with_reducible first | exact HB.out | apply below_alloc | apply pw_below_drewN | apply below_drew1) | exact HB.out)) hb); clear HB; have HO310 := n0_; have HB := n1_; clear n0_ n1_; (try clear hb); (try clear hb2); (try clear hk); (try clear hi); (try clear ho0)))
      go_ret
      exact ⟨_, by first | rfl | (simp [errW_none, errW_some] <;> rfl) | (simp only [← hji3]; first | rfl | (simp [errW_none, errW_some] <;> rfl)) | (simp [*, errW_none, errW_some] <;> rfl), by (with_reducible repeat (first | apply Kd.R_alloc | apply Kd.R_drewN | apply Kd.R_drew)); exact HO310.out, by repeat (first | (with_reducible first | exact HB.out | apply below_alloc | apply pw_below_drewN | apply below_drew1) | exact HB.out)⟩
    · rw [if_neg c5] at H
      exact absurd H (by simp)
  · rw [if_neg c4] at H
    exact absurd H (by simp)

/-! ### zigguratlaw01_NatSums: function 4 -/
def zigguratlaw01_NatSums.f (k : Nat) (l0 : List Int) (l1 : List Int) (l2 : List Int) : Option (Bool) := (zigguratlaw01_head.f k).bind fun t311 => ((zigguratref01_Made.f k l0 60).bind fun t312 => ((zigguratref01_Made.f k l1 60).bind fun t315 => ((zigguratref01_Made.f k l2 60).bind fun t318 => ((nat_Add.f k t312 t315).bind fun t321 => ((nat_Add.f k t315 t312).bind fun t324 => ((zigguratref01_Same.f k t321 t324).bind fun t327 => (if t327 = true then ((nat_Add.f k t321 t318).bind fun t328 => ((nat_Add.f k t315 t318).bind fun t331 => ((nat_Add.f k t312 t331).bind fun t334 => ((zigguratref01_Same.f k t328 t334).bind fun t337 => (if t337 = true then ((nat_Add.f k t312 ([] : List Int)).bind fun t338 => ((zigguratref01_Same.f k t338 t312).bind fun t341 => (if t341 = true then ((nat_Right.f t321).bind fun t342 => (if t342 = true then ((nat_Bits.f t321).bind fun t343 => ((nat_Bits.f t312).bind fun t344 => ((nat_Bits.f t315).bind fun t345 => (if t343 ≤ (wrap64 (1 + (mx t344 t345))) then ((nat_Bits.f t321).bind fun t346 => ((nat_Bits.f t312).bind fun t347 => ((nat_Bits.f t315).bind fun t348 => (if t346 ≥ (mx t347 t348) then (some t311) else (none))))) else (none))))) else (none))) else (none)))) else (none)))))) else (none))))))))
theorem zigguratlaw01_NatSums.mono : ∀ a0 a1 a2 k, LeO (zigguratlaw01_NatSums.f k a0 a1 a2) (zigguratlaw01_NatSums.f (k + 1) a0 a1 a2) := by
  intro a0 a1 a2 k
  unfold zigguratlaw01_NatSums.f
  repeat' first
      | (with_reducible exact nat_Add.mono _ _ _)
      | (with_reducible exact zigguratlaw01_head.mono _)
      | (with_reducible exact zigguratref01_Made.mono _ _ _)
      | (with_reducible exact zigguratref01_Same.mono _ _ _)
      | (with_reducible exact LeO.refl _)
      | (with_reducible exact LeO.none _)
      | (with_reducible refine LeO.ite ?_ ?_)
      | (with_reducible refine LeO.bind ?_ (fun _ => ?_))
      | exact nat_Add.mono _ _ _
      | exact zigguratlaw01_head.mono _
      | exact zigguratref01_Made.mono _ _ _
      | exact zigguratref01_Same.mono _ _ _
      | exact LeO.none _
      | refine LeO.ite ?_ ?_
      | refine LeO.bind ?_ (fun _ => ?_)
set_option maxHeartbeats 8000000 in
set_option maxRecDepth 100000 in
theorem zigguratlaw01_NatSums.calls (k : Nat) (A0 : Option Addr) (c0 : Nat) (l0 : List Int) (A1 : Option Addr) (c1 : Nat) (l1 : List Int) (A2 : Option Addr) (c2 : Nat) (l2 : List Int) (r : Bool) (w : World) (hr0 : Kd.C (Kd.int .u32) w A0 l0.length l0) (hc0 : l0.length ≤ c0) (hr1 : Kd.C (Kd.int .u32) w A1 l1.length l1) (hc1 : l1.length ≤ c1) (hr2 : Kd.C (Kd.int .u32) w A2 l2.length l2) (hc2 : l2.length ≤ c2) (h : zigguratlaw01_NatSums.f k l0 l1 l2 = some r) :
    Calls Try.prog 4 #[.slice A0 l0.length c0, .slice A1 l1.length c1, .slice A2 l2.length c2] w fun e w' => e = .returned (.bool r) ∧ Below w.heap.size w w' := by
  have HR0 := Aside0.mk hr0
  have HC0 := Aside0.mk hc0
  clear hr0 hc0
  have HR1 := Aside0.mk hr1
  have HC1 := Aside0.mk hc1
  clear hr1 hc1
  have HR2 := Aside0.mk hr2
  have HC2 := Aside0.mk hc2
  clear hr2 hc2
  have HB := Aside0.mk (Below.refl w.heap.size w)
  have H : ((zigguratlaw01_head.f k).bind fun t311 => ((zigguratref01_Made.f k l0 60).bind fun t312 => ((zigguratref01_Made.f k l1 60).bind fun t315 => ((zigguratref01_Made.f k l2 60).bind fun t318 => ((nat_Add.f k t312 t315).bind fun t321 => ((nat_Add.f k t315 t312).bind fun t324 => ((zigguratref01_Same.f k t321 t324).bind fun t327 => (if t327 = true then ((nat_Add.f k t321 t318).bind fun t328 => ((nat_Add.f k t315 t318).bind fun t331 => ((nat_Add.f k t312 t331).bind fun t334 => ((zigguratref01_Same.f k t328 t334).bind fun t337 => (if t337 = true then ((nat_Add.f k t312 ([] : List Int)).bind fun t338 => ((zigguratref01_Same.f k t338 t312).bind fun t341 => (if t341 = true then ((nat_Right.f t321).bind fun t342 => (if t342 = true then ((nat_Bits.f t321).bind fun t343 => ((nat_Bits.f t312).bind fun t344 => ((nat_Bits.f t315).bind fun t345 => (if t343 ≤ (wrap64 (1 + (mx t344 t345))) then ((nat_Bits.f t321).bind fun t346 => ((nat_Bits.f t312).bind fun t347 => ((nat_Bits.f t315).bind fun t348 => (if t346 ≥ (mx t347 t348) then (some t311) else (none))))) else (none))))) else (none))) else (none)))) else (none)))))) else (none))))))))) = some r := h
  clear h
  replace H := Option.bind_eq_some_iff.mp H
  obtain ⟨t311, A40, H⟩ := H
  replace H : ((zigguratref01_Made.f k l0 60).bind fun t312 => ((zigguratref01_Made.f k l1 60).bind fun t315 => ((zigguratref01_Made.f k l2 60).bind fun t318 => ((nat_Add.f k t312 t315).bind fun t321 => ((nat_Add.f k t315 t312).bind fun t324 => ((zigguratref01_Same.f k t321 t324).bind fun t327 => (if t327 = true then ((nat_Add.f k t321 t318).bind fun t328 => ((nat_Add.f k t315 t318).bind fun t331 => ((nat_Add.f k t312 t331).bind fun t334 => ((zigguratref01_Same.f k t328 t334).bind fun t337 => (if t337 = true then ((nat_Add.f k t312 ([] : List Int)).bind fun t338 => ((zigguratref01_Same.f k t338 t312).bind fun t341 => (if t341 = true then ((nat_Right.f t321).bind fun t342 => (if t342 = true then ((nat_Bits.f t321).bind fun t343 => ((nat_Bits.f t312).bind fun t344 => ((nat_Bits.f t315).bind fun t345 => (if t343 ≤ (wrap64 (1 + (mx t344 t345))) then ((nat_Bits.f t321).bind fun t346 => ((nat_Bits.f t312).bind fun t347 => ((nat_Bits.f t315).bind fun t348 => (if t346 ≥ (mx t347 t348) then (some t311) else (none))))) else (none))))) else (none))) else (none)))) else (none)))))) else (none)))))))) = some r := H
  have A4 := Aside0.mk A40
  clear A40
  replace H := Option.bind_eq_some_iff.mp H
  obtain ⟨t312, A50, H⟩ := H
  replace H : ((zigguratref01_Made.f k l1 60).bind fun t315 => ((zigguratref01_Made.f k l2 60).bind fun t318 => ((nat_Add.f k t312 t315).bind fun t321 => ((nat_Add.f k t315 t312).bind fun t324 => ((zigguratref01_Same.f k t321 t324).bind fun t327 => (if t327 = true then ((nat_Add.f k t321 t318).bind fun t328 => ((nat_Add.f k t315 t318).bind fun t331 => ((nat_Add.f k t312 t331).bind fun t334 => ((zigguratref01_Same.f k t328 t334).bind fun t337 => (if t337 = true then ((nat_Add.f k t312 ([] : List Int)).bind fun t338 => ((zigguratref01_Same.f k t338 t312).bind fun t341 => (if t341 = true then ((nat_Right.f t321).bind fun t342 => (if t342 = true then ((nat_Bits.f t321).bind fun t343 => ((nat_Bits.f t312).bind fun t344 => ((nat_Bits.f t315).bind fun t345 => (if t343 ≤ (wrap64 (1 + (mx t344 t345))) then ((nat_Bits.f t321).bind fun t346 => ((nat_Bits.f t312).bind fun t347 => ((nat_Bits.f t315).bind fun t348 => (if t346 ≥ (mx t347 t348) then (some t311) else (none))))) else (none))))) else (none))) else (none)))) else (none)))))) else (none))))))) = some r := H
  have A5 := Aside0.mk A50
  clear A50
  replace H := Option.bind_eq_some_iff.mp H
  obtain ⟨t315, A60, H⟩ := H
  replace H : ((zigguratref01_Made.f k l2 60).bind fun t318 => ((nat_Add.f k t312 t315).bind fun t321 => ((nat_Add.f k t315 t312).bind fun t324 => ((zigguratref01_Same.f k t321 t324).bind fun t327 => (if t327 = true then ((nat_Add.f k t321 t318).bind fun t328 => ((nat_Add.f k t315 t318).bind fun t331 => ((nat_Add.f k t312 t331).bind fun t334 => ((zigguratref01_Same.f k t328 t334).bind fun t337 => (if t337 = true then ((nat_Add.f k t312 ([] : List Int)).bind fun t338 => ((zigguratref01_Same.f k t338 t312).bind fun t341 => (if t341 = true then ((nat_Right.f t321).bind fun t342 => (if t342 = true then ((nat_Bits.f t321).bind fun t343 => ((nat_Bits.f t312).bind fun t344 => ((nat_Bits.f t315).bind fun t345 => (if t343 ≤ (wrap64 (1 + (mx t344 t345))) then ((nat_Bits.f t321).bind fun t346 => ((nat_Bits.f t312).bind fun t347 => ((nat_Bits.f t315).bind fun t348 => (if t346 ≥ (mx t347 t348) then (some t311) else (none))))) else (none))))) else (none))) else (none)))) else (none)))))) else (none)))))) = some r := H
  have A6 := Aside0.mk A60
  clear A60
  replace H := Option.bind_eq_some_iff.mp H
  obtain ⟨t318, A70, H⟩ := H
  replace H : ((nat_Add.f k t312 t315).bind fun t321 => ((nat_Add.f k t315 t312).bind fun t324 => ((zigguratref01_Same.f k t321 t324).bind fun t327 => (if t327 = true then ((nat_Add.f k t321 t318).bind fun t328 => ((nat_Add.f k t315 t318).bind fun t331 => ((nat_Add.f k t312 t331).bind fun t334 => ((zigguratref01_Same.f k t328 t334).bind fun t337 => (if t337 = true then ((nat_Add.f k t312 ([] : List Int)).bind fun t338 => ((zigguratref01_Same.f k t338 t312).bind fun t341 => (if t341 = true then ((nat_Right.f t321).bind fun t342 => (if t342 = true then ((nat_Bits.f t321).bind fun t343 => ((nat_Bits.f t312).bind fun t344 => ((nat_Bits.f t315).bind fun t345 => (if t343 ≤ (wrap64 (1 + (mx t344 t345))) then ((nat_Bits.f t321).bind fun t346 => ((nat_Bits.f t312).bind fun t347 => ((nat_Bits.f t315).bind fun t348 => (if t346 ≥ (mx t347 t348) then (some t311) else (none))))) else (none))))) else (none))) else (none)))) else (none)))))) else (none))))) = some r := H
  have A7 := Aside0.mk A70
  clear A70
  replace H := Option.bind_eq_some_iff.mp H
  obtain ⟨t321, A80, H⟩ := H
  replace H : ((nat_Add.f k t315 t312).bind fun t324 => ((zigguratref01_Same.f k t321 t324).bind fun t327 => (if t327 = true then ((nat_Add.f k t321 t318).bind fun t328 => ((nat_Add.f k t315 t318).bind fun t331 => ((nat_Add.f k t312 t331).bind fun t334 => ((zigguratref01_Same.f k t328 t334).bind fun t337 => (if t337 = true then ((nat_Add.f k t312 ([] : List Int)).bind fun t338 => ((zigguratref01_Same.f k t338 t312).bind fun t341 => (if t341 = true then ((nat_Right.f t321).bind fun t342 => (if t342 = true then ((nat_Bits.f t321).bind fun t343 => ((nat_Bits.f t312).bind fun t344 => ((nat_Bits.f t315).bind fun t345 => (if t343 ≤ (wrap64 (1 + (mx t344 t345))) then ((nat_Bits.f t321).bind fun t346 => ((nat_Bits.f t312).bind fun t347 => ((nat_Bits.f t315).bind fun t348 => (if t346 ≥ (mx t347 t348) then (some t311) else (none))))) else (none))))) else (none))) else (none)))) else (none)))))) else (none)))) = some r := H
  have A8 := Aside0.mk A80
  clear A80
  replace H := Option.bind_eq_some_iff.mp H
  obtain ⟨t324, A90, H⟩ := H
  replace H : ((zigguratref01_Same.f k t321 t324).bind fun t327 => (if t327 = true then ((nat_Add.f k t321 t318).bind fun t328 => ((nat_Add.f k t315 t318).bind fun t331 => ((nat_Add.f k t312 t331).bind fun t334 => ((zigguratref01_Same.f k t328 t334).bind fun t337 => (if t337 = true then ((nat_Add.f k t312 ([] : List Int)).bind fun t338 => ((zigguratref01_Same.f k t338 t312).bind fun t341 => (if t341 = true then ((nat_Right.f t321).bind fun t342 => (if t342 = true then ((nat_Bits.f t321).bind fun t343 => ((nat_Bits.f t312).bind fun t344 => ((nat_Bits.f t315).bind fun t345 => (if t343 ≤ (wrap64 (1 + (mx t344 t345))) then ((nat_Bits.f t321).bind fun t346 => ((nat_Bits.f t312).bind fun t347 => ((nat_Bits.f t315).bind fun t348 => (if t346 ≥ (mx t347 t348) then (some t311) else (none))))) else (none))))) else (none))) else (none)))) else (none)))))) else (none))) = some r := H
  have A9 := Aside0.mk A90
  clear A90
  replace H := Option.bind_eq_some_iff.mp H
  obtain ⟨t327, A100, H⟩ := H
  replace H : (if t327 = true then ((nat_Add.f k t321 t318).bind fun t328 => ((nat_Add.f k t315 t318).bind fun t331 => ((nat_Add.f k t312 t331).bind fun t334 => ((zigguratref01_Same.f k t328 t334).bind fun t337 => (if t337 = true then ((nat_Add.f k t312 ([] : List Int)).bind fun t338 => ((zigguratref01_Same.f k t338 t312).bind fun t341 => (if t341 = true then ((nat_Right.f t321).bind fun t342 => (if t342 = true then ((nat_Bits.f t321).bind fun t343 => ((nat_Bits.f t312).bind fun t344 => ((nat_Bits.f t315).bind fun t345 => (if t343 ≤ (wrap64 (1 + (mx t344 t345))) then ((nat_Bits.f t321).bind fun t346 => ((nat_Bits.f t312).bind fun t347 => ((nat_Bits.f t315).bind fun t348 => (if t346 ≥ (mx t347 t348) then (some t311) else (none))))) else (none))))) else (none))) else (none)))) else (none)))))) else (none)) = some r := H
  have A10 := Aside0.mk A100
  clear A100
  by_cases c11 : t327 = true
  · subst c11
    have H1 : ((nat_Add.f k t321 t318).bind fun t328 => ((nat_Add.f k t315 t318).bind fun t331 => ((nat_Add.f k t312 t331).bind fun t334 => ((zigguratref01_Same.f k t328 t334).bind fun t337 => (if t337 = true then ((nat_Add.f k t312 ([] : List Int)).bind fun t338 => ((zigguratref01_Same.f k t338 t312).bind fun t341 => (if t341 = true then ((nat_Right.f t321).bind fun t342 => (if t342 = true then ((nat_Bits.f t321).bind fun t343 => ((nat_Bits.f t312).bind fun t344 => ((nat_Bits.f t315).bind fun t345 => (if t343 ≤ (wrap64 (1 + (mx t344 t345))) then ((nat_Bits.f t321).bind fun t346 => ((nat_Bits.f t312).bind fun t347 => ((nat_Bits.f t315).bind fun t348 => (if t346 ≥ (mx t347 t348) then (some t311) else (none))))) else (none))))) else (none))) else (none)))) else (none)))))) = some r := by rw [if_pos rfl] at H; exact H
    clear H
    have H := H1
    clear H1
    replace H := Option.bind_eq_some_iff.mp H
    obtain ⟨t328, A120, H⟩ := H
    replace H : ((nat_Add.f k t315 t318).bind fun t331 => ((nat_Add.f k t312 t331).bind fun t334 => ((zigguratref01_Same.f k t328 t334).bind fun t337 => (if t337 = true then ((nat_Add.f k t312 ([] : List Int)).bind fun t338 => ((zigguratref01_Same.f k t338 t312).bind fun t341 => (if t341 = true then ((nat_Right.f t321).bind fun t342 => (if t342 = true then ((nat_Bits.f t321).bind fun t343 => ((nat_Bits.f t312).bind fun t344 => ((nat_Bits.f t315).bind fun t345 => (if t343 ≤ (wrap64 (1 + (mx t344 t345))) then ((nat_Bits.f t321).bind fun t346 => ((nat_Bits.f t312).bind fun t347 => ((nat_Bits.f t315).bind fun t348 => (if t346 ≥ (mx t347 t348) then (some t311) else (none))))) else (none))))) else (none))) else (none)))) else (none))))) = some r := H
    have A12 := Aside0.mk A120
    clear A120
    replace H := Option.bind_eq_some_iff.mp H
    obtain ⟨t331, A130, H⟩ := H
    replace H : ((nat_Add.f k t312 t331).bind fun t334 => ((zigguratref01_Same.f k t328 t334).bind fun t337 => (if t337 = true then ((nat_Add.f k t312 ([] : List Int)).bind fun t338 => ((zigguratref01_Same.f k t338 t312).bind fun t341 => (if t341 = true then ((nat_Right.f t321).bind fun t342 => (if t342 = true then ((nat_Bits.f t321).bind fun t343 => ((nat_Bits.f t312).bind fun t344 => ((nat_Bits.f t315).bind fun t345 => (if t343 ≤ (wrap64 (1 + (mx t344 t345))) then ((nat_Bits.f t321).bind fun t346 => ((nat_Bits.f t312).bind fun t347 => ((nat_Bits.f t315).bind fun t348 => (if t346 ≥ (mx t347 t348) then (some t311) else (none))))) else (none))))) else (none))) else (none)))) else (none)))) = some r := H
    have A13 := Aside0.mk A130
    clear A130
    replace H := Option.bind_eq_some_iff.mp H
    obtain ⟨t334, A140, H⟩ := H
    replace H : ((zigguratref01_Same.f k t328 t334).bind fun t337 => (if t337 = true then ((nat_Add.f k t312 ([] : List Int)).bind fun t338 => ((zigguratref01_Same.f k t338 t312).bind fun t341 => (if t341 = true then ((nat_Right.f t321).bind fun t342 => (if t342 = true then ((nat_Bits.f t321).bind fun t343 => ((nat_Bits.f t312).bind fun t344 => ((nat_Bits.f t315).bind fun t345 => (if t343 ≤ (wrap64 (1 + (mx t344 t345))) then ((nat_Bits.f t321).bind fun t346 => ((nat_Bits.f t312).bind fun t347 => ((nat_Bits.f t315).bind fun t348 => (if t346 ≥ (mx t347 t348) then (some t311) else (none))))) else (none))))) else (none))) else (none)))) else (none))) = some r := H
    have A14 := Aside0.mk A140
    clear A140
    replace H := Option.bind_eq_some_iff.mp H
    obtain ⟨t337, A150, H⟩ := H
    replace H : (if t337 = true then ((nat_Add.f k t312 ([] : List Int)).bind fun t338 => ((zigguratref01_Same.f k t338 t312).bind fun t341 => (if t341 = true then ((nat_Right.f t321).bind fun t342 => (if t342 = true then ((nat_Bits.f t321).bind fun t343 => ((nat_Bits.f t312).bind fun t344 => ((nat_Bits.f t315).bind fun t345 => (if t343 ≤ (wrap64 (1 + (mx t344 t345))) then ((nat_Bits.f t321).bind fun t346 => ((nat_Bits.f t312).bind fun t347 => ((nat_Bits.f t315).bind fun t348 => (if t346 ≥ (mx t347 t348) then (some t311) else (none))))) else (none))))) else (none))) else (none)))) else (none)) = some r := H
    have A15 := Aside0.mk A150
    clear A150
    by_cases c16 : t337 = true
    · subst c16
      have H1 : ((nat_Add.f k t312 ([] : List Int)).bind fun t338 => ((zigguratref01_Same.f k t338 t312).bind fun t341 => (if t341 = true then ((nat_Right.f t321).bind fun t342 => (if t342 = true then ((nat_Bits.f t321).bind fun t343 => ((nat_Bits.f t312).bind fun t344 => ((nat_Bits.f t315).bind fun t345 => (if t343 ≤ (wrap64 (1 + (mx t344 t345))) then ((nat_Bits.f t321).bind fun t346 => ((nat_Bits.f t312).bind fun t347 => ((nat_Bits.f t315).bind fun t348 => (if t346 ≥ (mx t347 t348) then (some t311) else (none))))) else (none))))) else (none))) else (none)))) = some r := by rw [if_pos rfl] at H; exact H
      clear H
      have H := H1
      clear H1
      replace H := Option.bind_eq_some_iff.mp H
      obtain ⟨t338, A170, H⟩ := H
      replace H : ((zigguratref01_Same.f k t338 t312).bind fun t341 => (if t341 = true then ((nat_Right.f t321).bind fun t342 => (if t342 = true then ((nat_Bits.f t321).bind fun t343 => ((nat_Bits.f t312).bind fun t344 => ((nat_Bits.f t315).bind fun t345 => (if t343 ≤ (wrap64 (1 + (mx t344 t345))) then ((nat_Bits.f t321).bind fun t346 => ((nat_Bits.f t312).bind fun t347 => ((nat_Bits.f t315).bind fun t348 => (if t346 ≥ (mx t347 t348) then (some t311) else (none))))) else (none))))) else (none))) else (none))) = some r := H
      have A17 := Aside0.mk A170
      clear A170
      replace H := Option.bind_eq_some_iff.mp H
      obtain ⟨t341, A180, H⟩ := H
      replace H : (if t341 = true then ((nat_Right.f t321).bind fun t342 => (if t342 = true then ((nat_Bits.f t321).bind fun t343 => ((nat_Bits.f t312).bind fun t344 => ((nat_Bits.f t315).bind fun t345 => (if t343 ≤ (wrap64 (1 + (mx t344 t345))) then ((nat_Bits.f t321).bind fun t346 => ((nat_Bits.f t312).bind fun t347 => ((nat_Bits.f t315).bind fun t348 => (if t346 ≥ (mx t347 t348) then (some t311) else (none))))) else (none))))) else (none))) else (none)) = some r := H
      have A18 := Aside0.mk A180
      clear A180
      by_cases c19 : t341 = true
      · subst c19
        have H1 : ((nat_Right.f t321).bind fun t342 => (if t342 = true then ((nat_Bits.f t321).bind fun t343 => ((nat_Bits.f t312).bind fun t344 => ((nat_Bits.f t315).bind fun t345 => (if t343 ≤ (wrap64 (1 + (mx t344 t345))) then ((nat_Bits.f t321).bind fun t346 => ((nat_Bits.f t312).bind fun t347 => ((nat_Bits.f t315).bind fun t348 => (if t346 ≥ (mx t347 t348) then (some t311) else (none))))) else (none))))) else (none))) = some r := by rw [if_pos rfl] at H; exact H
        clear H
        have H := H1
        clear H1
        replace H := Option.bind_eq_some_iff.mp H
        obtain ⟨t342, A200, H⟩ := H
        replace H : (if t342 = true then ((nat_Bits.f t321).bind fun t343 => ((nat_Bits.f t312).bind fun t344 => ((nat_Bits.f t315).bind fun t345 => (if t343 ≤ (wrap64 (1 + (mx t344 t345))) then ((nat_Bits.f t321).bind fun t346 => ((nat_Bits.f t312).bind fun t347 => ((nat_Bits.f t315).bind fun t348 => (if t346 ≥ (mx t347 t348) then (some t311) else (none))))) else (none))))) else (none)) = some r := H
        have A20 := Aside0.mk A200
        clear A200
        by_cases c21 : t342 = true
        · subst c21
          have H1 : ((nat_Bits.f t321).bind fun t343 => ((nat_Bits.f t312).bind fun t344 => ((nat_Bits.f t315).bind fun t345 => (if t343 ≤ (wrap64 (1 + (mx t344 t345))) then ((nat_Bits.f t321).bind fun t346 => ((nat_Bits.f t312).bind fun t347 => ((nat_Bits.f t315).bind fun t348 => (if t346 ≥ (mx t347 t348) then (some t311) else (none))))) else (none))))) = some r := by rw [if_pos rfl] at H; exact H
          clear H
          have H := H1
          clear H1
          replace H := Option.bind_eq_some_iff.mp H
          obtain ⟨t343, A220, H⟩ := H
          replace H : ((nat_Bits.f t312).bind fun t344 => ((nat_Bits.f t315).bind fun t345 => (if t343 ≤ (wrap64 (1 + (mx t344 t345))) then ((nat_Bits.f t321).bind fun t346 => ((nat_Bits.f t312).bind fun t347 => ((nat_Bits.f t315).bind fun t348 => (if t346 ≥ (mx t347 t348) then (some t311) else (none))))) else (none)))) = some r := H
          have A22 := Aside0.mk A220
          clear A220
          replace H := Option.bind_eq_some_iff.mp H
          obtain ⟨t344, A230, H⟩ := H
          replace H : ((nat_Bits.f t315).bind fun t345 => (if t343 ≤ (wrap64 (1 + (mx t344 t345))) then ((nat_Bits.f t321).bind fun t346 => ((nat_Bits.f t312).bind fun t347 => ((nat_Bits.f t315).bind fun t348 => (if t346 ≥ (mx t347 t348) then (some t311) else (none))))) else (none))) = some r := H
          have A23 := Aside0.mk A230
          clear A230
          replace H := Option.bind_eq_some_iff.mp H
          obtain ⟨t345, A240, H⟩ := H
          replace H : (if t343 ≤ (wrap64 (1 + (mx t344 t345))) then ((nat_Bits.f t321).bind fun t346 => ((nat_Bits.f t312).bind fun t347 => ((nat_Bits.f t315).bind fun t348 => (if t346 ≥ (mx t347 t348) then (some t311) else (none))))) else (none)) = some r := H
          have A24 := Aside0.mk A240
          clear A240
          obtain ⟨ji25, hji25⟩ : ∃ j_ : Int, (mx t344 t345) = j_ := ⟨_, rfl⟩
          replace H : (if t343 ≤ (wrap64 (1 + (ji25))) then ((nat_Bits.f t321).bind fun t346 => ((nat_Bits.f t312).bind fun t347 => ((nat_Bits.f t315).bind fun t348 => (if t346 ≥ (mx t347 t348) then (some t311) else (none))))) else (none)) = some r := by first | (rw [hji25] at H; exact H) | (simp only [hji25] at H ⊢; exact H)
          (try rw [hji25] at A4)
          (try rw [hji25] at A5)
          (try rw [hji25] at A6)
          (try rw [hji25] at A7)
          (try rw [hji25] at A8)
          (try rw [hji25] at A9)
          (try rw [hji25] at A10)
          (try rw [hji25] at A12)
          (try rw [hji25] at A13)
          (try rw [hji25] at A14)
          (try rw [hji25] at A15)
          (try rw [hji25] at A17)
          (try rw [hji25] at A18)
          (try rw [hji25] at A20)
          (try rw [hji25] at A22)
          (try rw [hji25] at A23)
          (try rw [hji25] at A24)
          have hji25_ : (if t344 < t345 then t345 else t344) = ji25 := hji25
          have hji25n_ := hji25_
          (try simp only [Int.ofNat_lt] at hji25n_)
          by_cases c26 : t343 ≤ (wrap64 (1 + (ji25)))
          · rw [if_pos c26] at H
            have c26b0 : decide (t343 ≤ (wrap64 (1 + (ji25)))) = true := decide_eq_true c26
            clear c26
            replace H := Option.bind_eq_some_iff.mp H
            obtain ⟨t346, A270, H⟩ := H
            replace H : ((nat_Bits.f t312).bind fun t347 => ((nat_Bits.f t315).bind fun t348 => (if t346 ≥ (mx t347 t348) then (some t311) else (none)))) = some r := H
            have A27 := Aside0.mk A270
            clear A270
            have e_ : t343 = t346 := Option.some.inj (A22.out.symm.trans A27.out)
            subst e_
            replace H := Option.bind_eq_some_iff.mp H
            obtain ⟨t347, A280, H⟩ := H
            replace H : ((nat_Bits.f t315).bind fun t348 => (if t343 ≥ (mx t347 t348) then (some t311) else (none))) = some r := H
            have A28 := Aside0.mk A280
            clear A280
            have e_ : t344 = t347 := Option.some.inj (A23.out.symm.trans A28.out)
            subst e_
            replace H := Option.bind_eq_some_iff.mp H
            obtain ⟨t348, A290, H⟩ := H
            replace H : (if t343 ≥ (mx t344 t348) then (some t311) else (none)) = some r := H
            have A29 := Aside0.mk A290
            clear A290
            have e_ : t345 = t348 := Option.some.inj (A24.out.symm.trans A29.out)
            subst e_
            obtain ⟨ji30, hji30⟩ : ∃ j_ : Int, (mx t344 t345) = j_ := ⟨_, rfl⟩
            have e_ : ji25 = ji30 := hji25.symm.trans hji30
            subst e_
            replace H : (if t343 ≥ (ji25) then (some t311) else (none)) = some r := by first | (rw [hji30] at H; exact H) | (simp only [hji30] at H ⊢; exact H)
            (try rw [hji30] at A4)
            (try rw [hji30] at A5)
            (try rw [hji30] at A6)
            (try rw [hji30] at A7)
            (try rw [hji30] at A8)
            (try rw [hji30] at A9)
            (try rw [hji30] at A10)
            (try rw [hji30] at A12)
            (try rw [hji30] at A13)
            (try rw [hji30] at A14)
            (try rw [hji30] at A15)
            (try rw [hji30] at A17)
            (try rw [hji30] at A18)
            (try rw [hji30] at A20)
            (try rw [hji30] at A22)
            (try rw [hji30] at A23)
            (try rw [hji30] at A24)
            (try rw [hji30] at A27)
            (try rw [hji30] at A28)
            (try rw [hji30] at A29)
            have hji30_ : (if t344 < t345 then t345 else t344) = ji25 := hji30
            have hji30n_ := hji30_
            (try simp only [Int.ofNat_lt] at hji30n_)
            by_cases c31 : t343 ≥ (ji25)
            · rw [if_pos c31] at H
              have c31b0 : decide ((ji25) ≤ t343) = true := decide_eq_true c31
              clear c31
              obtain rfl := Option.some.inj H
              go_enter Try.func4, Try.ntmps4
              (try simp only [List.append])
              go_wp2_with (first | ((with_reducible refine gate_callee (f := 12) rfl ?_); refine goesL_ (some 12) rfl rfl Try.func12 (by kernel_rfl) rfl #[] rfl (by (try simp only [List.map_toArray, List.map_cons, List.map_nil]); first | done | rfl | (simp only [List.length_drop, List.length_take]; rfl)) ?_; (with_reducible refine (zigguratlaw01_head.calls k  t311 _ A4.out).mono ?_); rintro e w32 ⟨rfl, hb⟩; refine ⟨_, rfl, ?_⟩; have n0_ := Aside0.mk (below_step (by repeat (first | (with_reducible first | exact HB.out | apply below_alloc | apply pw_below_drewN | apply below_drew1) | exact HB.out)) hb); clear HB; have HB := n0_; clear n0_; (try clear hb); (try clear hb2); (try clear hk); (try clear hi)) | ((with_reducible refine gate_callee (f := 34) rfl ?_); refine goesL_ (some 14) rfl rfl Try.func34 (by kernel_rfl) rfl #[.slice A0 l0.length c0, .int .i64 60] rfl (by (try simp only [List.map_toArray, List.map_cons, List.map_nil]); first | done | rfl | (simp only [List.length_drop, List.length_take]; rfl)) ?_; (with_reducible refine (zigguratref01_Made.calls k _ _ l0 60 t312 _ ?side1 ?side2 A5.out).mono ?_); (case side1 => repeat (first | exact (Kd.C_below HR0.out HB.out) | (with_reducible refine Kd.C_alloc ?_ _) | (with_reducible refine Kd.C_drewN ?_ _) | (with_reducible refine Kd.C_drew ?_))); (case side2 => exact HC0.out); rintro e w33 ⟨v313, rfl, ho0, hb⟩; refine ⟨_, rfl, ?_⟩; have n0_ := Aside0.mk (Kd.R_lower ho0 (below_size (by repeat (first | (with_reducible first | exact HB.out | apply below_alloc | apply pw_below_drewN | apply below_drew1) | exact HB.out)))); have n1_ := Aside0.mk (below_step (by repeat (first | (with_reducible first | exact HB.out | apply below_alloc | apply pw_below_drewN | apply below_drew1) | exact HB.out)) hb); clear HB; have HO314 := n0_; have HB := n1_; clear n0_ n1_; (try clear hb); (try clear hb2); (try clear hk); (try clear hi); (try clear ho0)) | ((with_reducible refine gate_callee (f := 34) rfl ?_); refine goesL_ (some 16) rfl rfl Try.func34 (by kernel_rfl) rfl #[.slice A1 l1.length c1, .int .i64 60] rfl (by (try simp only [List.map_toArray, List.map_cons, List.map_nil]); first | done | rfl | (simp only [List.length_drop, List.length_take]; rfl)) ?_; (with_reducible refine (zigguratref01_Made.calls k _ _ l1 60 t315 _ ?side1 ?side2 A6.out).mono ?_); (case side1 => repeat (first | exact (Kd.C_below HR1.out HB.out) | (with_reducible refine Kd.C_alloc ?_ _) | (with_reducible refine Kd.C_drewN ?_ _) | (with_reducible refine Kd.C_drew ?_))); (case side2 => exact HC1.out); rintro e w34 ⟨v316, rfl, ho0, hb⟩; refine ⟨_, rfl, ?_⟩; have n0_ := Aside0.mk (Kd.R_elder' (by (with_reducible repeat (first | apply Kd.R_alloc | apply Kd.R_drewN | apply Kd.R_drew)); exact HO314.out) (Kd.R_base ho0) hb); have n1_ := Aside0.mk (Kd.R_lower (Kd.R_new' ho0 (Kd.R_lt (by (with_reducible repeat (first | apply Kd.R_alloc | apply Kd.R_drewN | apply Kd.R_drew)); exact HO314.out))) (below_size (by repeat (first | (with_reducible first | exact HB.out | apply below_alloc | apply pw_below_drewN | apply below_drew1) | exact HB.out)))); have n2_ := Aside0.mk (below_step (by repeat (first | (with_reducible first | exact HB.out | apply below_alloc | apply pw_below_drewN | apply below_drew1) | exact HB.out)) hb); clear HO314; clear HB; have HO314 := n0_; have HO317 := n1_; have HB := n2_; clear n0_ n1_ n2_; (try clear hb); (try clear hb2); (try clear hk); (try clear hi); (try clear ho0)) | ((with_reducible refine gate_callee (f := 34) rfl ?_); refine goesL_ (some 18) rfl rfl Try.func34 (by kernel_rfl) rfl #[.slice A2 l2.length c2, .int .i64 60] rfl (by (try simp only [List.map_toArray, List.map_cons, List.map_nil]); first | done | rfl | (simp only [List.length_drop, List.length_take]; rfl)) ?_; (with_reducible refine (zigguratref01_Made.calls k _ _ l2 60 t318 _ ?side1 ?side2 A7.out).mono ?_); (case side1 => repeat (first | exact (Kd.C_below HR2.out HB.out) | (with_reducible refine Kd.C_alloc ?_ _) | (with_reducible refine Kd.C_drewN ?_ _) | (with_reducible refine Kd.C_drew ?_))); (case side2 => exact HC2.out); rintro e w35 ⟨v319, rfl, ho0, hb⟩; refine ⟨_, rfl, ?_⟩; have n0_ := Aside0.mk (Kd.R_elder' (by (with_reducible repeat (first | apply Kd.R_alloc | apply Kd.R_drewN | apply Kd.R_drew)); exact HO314.out) (Kd.R_base ho0) hb); have n1_ := Aside0.mk (Kd.R_elder' (by (with_reducible repeat (first | apply Kd.R_alloc | apply Kd.R_drewN | apply Kd.R_drew)); exact HO317.out) (Kd.R_base ho0) hb); have n2_ := Aside0.mk (Kd.R_lower (Kd.R_new' (Kd.R_new' ho0 (Kd.R_lt (by (with_reducible repeat (first | apply Kd.R_alloc | apply Kd.R_drewN | apply Kd.R_drew)); exact HO314.out))) (Kd.R_lt (by (with_reducible repeat (first | apply Kd.R_alloc | apply Kd.R_drewN | apply Kd.R_drew)); exact HO317.out))) (below_size (by repeat (first | (with_reducible first | exact HB.out | apply below_alloc | apply pw_below_drewN | apply below_drew1) | exact HB.out)))); have n3_ := Aside0.mk (below_step (by repeat (first | (with_reducible first | exact HB.out | apply below_alloc | apply pw_below_drewN | apply below_drew1) | exact HB.out)) hb); clear HO314; clear HO317; clear HB; have HO314 := n0_; have HO317 := n1_; have HO320 := n2_; have HB := n3_; clear n0_ n1_ n2_ n3_; (try clear hb); (try clear hb2); (try clear hk); (try clear hi); (try clear ho0); obtain ⟨Ao36, co36, eo36⟩ := Kd.R_slice HO314.out; subst eo36; obtain ⟨Ao37, co37, eo37⟩ := Kd.R_slice HO317.out; subst eo37) | ((with_reducible refine gate_callee (f := 22) rfl ?_); refine goesL_ (some 21) rfl rfl Try.func22 (by kernel_rfl) rfl #[.slice Ao36 t312.length co36, .slice Ao37 t315.length co37] rfl (by (try simp only [List.map_toArray, List.map_cons, List.map_nil]); first | done | rfl | (simp only [List.length_drop, List.length_take]; rfl)) ?_; (with_reducible refine (nat_Add.calls k _ _ t312 _ _ t315 t321 _ ?side1 ?side2 ?side3 ?side4 A8.out).mono ?_); (case side1 => repeat (first | exact (Kd.R_reads' HO314.out).2.2 | (with_reducible refine Kd.C_alloc ?_ _) | (with_reducible refine Kd.C_drewN ?_ _) | (with_reducible refine Kd.C_drew ?_))); (case side2 => exact (Kd.R_reads' HO314.out).2.1); (case side3 => repeat (first | exact (Kd.R_reads' HO317.out).2.2 | (with_reducible refine Kd.C_alloc ?_ _) | (with_reducible refine Kd.C_drewN ?_ _) | (with_reducible refine Kd.C_drew ?_))); (case side4 => exact (Kd.R_reads' HO317.out).2.1); rintro e w38 ⟨v322, rfl, ho0, hb⟩; refine ⟨_, rfl, ?_⟩; have n0_ := Aside0.mk (Kd.R_elder' (by (with_reducible repeat (first | apply Kd.R_alloc | apply Kd.R_drewN | apply Kd.R_drew)); exact HO314.out) (Kd.R_base ho0) hb); have n1_ := Aside0.mk (Kd.R_elder' (by (with_reducible repeat (first | apply Kd.R_alloc | apply Kd.R_drewN | apply Kd.R_drew)); exact HO317.out) (Kd.R_base ho0) hb); have n2_ := Aside0.mk (Kd.R_elder' (by (with_reducible repeat (first | apply Kd.R_alloc | apply Kd.R_drewN | apply Kd.R_drew)); exact HO320.out) (Kd.R_base ho0) hb); have n3_ := Aside0.mk (Kd.R_lower (Kd.R_new' (Kd.R_new' (Kd.R_new' ho0 (Kd.R_lt (by (with_reducible repeat (first | apply Kd.R_alloc | apply Kd.R_drewN | apply Kd.R_drew)); exact HO314.out))) (Kd.R_lt (by (with_reducible repeat (first | apply Kd.R_alloc | apply Kd.R_drewN | apply Kd.R_drew)); exact HO317.out))) (Kd.R_lt (by (with_reducible repeat (first | apply Kd.R_alloc | apply Kd.R_drewN | apply Kd.R_drew)); exact HO320.out))) (below_size (by repeat (first | (with_reducible first | exact HB.out | apply below_alloc | apply pw_below_drewN | apply below_drew1) | exact HB.out)))); have n4_ := Aside0.mk (below_step (by repeat (first | (with_reducible first | exact HB.out | apply below_alloc | apply pw_below_drewN | apply below_drew1) | exact HB.out)) hb); clear HO314; clear HO317; clear HO320; clear HB; have HO314 := n0_; have HO317 := n1_; have HO320 := n2_; have HO323 := n3_; have HB := n4_; clear n0_ n1_ n2_ n3_ n4_; (try clear hb); (try clear hb2); (try clear hk); (try clear hi); (try clear ho0)) | ((with_reducible refine gate_callee (f := 22) rfl ?_); refine goesL_ (some 25) rfl rfl Try.func22 (by kernel_rfl) rfl #[.slice Ao37 t315.length co37, .slice Ao36 t312.length co36] rfl (by (try simp only [List.map_toArray, List.map_cons, List.map_nil]); first | done | rfl | (simp only [List.length_drop, List.length_take]; rfl)) ?_; (with_reducible refine (nat_Add.calls k _ _ t315 _ _ t312 t324 _ ?side1 ?side2 ?side3 ?side4 A9.out).mono ?_); (case side1 => repeat (first | exact (Kd.R_reads' HO317.out).2.2 | (with_reducible refine Kd.C_alloc ?_ _) | (with_reducible refine Kd.C_drewN ?_ _) | (with_reducible refine Kd.C_drew ?_))); (case side2 => exact (Kd.R_reads' HO317.out).2.1); (case side3 => repeat (first | exact (Kd.R_reads' HO314.out).2.2 | (with_reducible refine Kd.C_alloc ?_ _) | (with_reducible refine Kd.C_drewN ?_ _) | (with_reducible refine Kd.C_drew ?_))); (case side4 => exact (Kd.R_reads' HO314.out).2.1); rintro e w39 ⟨v325, rfl, ho0, hb⟩; refine ⟨_, rfl, ?_⟩; have n0_ := Aside0.mk (Kd.R_elder' (by (with_reducible repeat (first | apply Kd.R_alloc | apply Kd.R_drewN | apply Kd.R_drew)); exact HO314.out) (Kd.R_base ho0) hb); have n1_ := Aside0.mk (Kd.R_elder' (by (with_reducible repeat (first | apply Kd.R_alloc | apply Kd.R_drewN | apply Kd.R_drew)); exact HO317.out) (Kd.R_base ho0) hb); have n2_ := Aside0.mk (Kd.R_elder' (by (with_reducible repeat (first | apply Kd.R_alloc | apply Kd.R_drewN | apply Kd.R_drew)); exact HO320.out) (Kd.R_base ho0) hb); have n3_ := Aside0.mk (Kd.R_elder' (by (with_reducible repeat (first | apply Kd.R_alloc | apply Kd.R_drewN | apply Kd.R_drew)); exact HO323.out) (Kd.R_base ho0) hb); have n4_ := Aside0.mk (Kd.R_lower (Kd.R_new' (Kd.R_new' (Kd.R_new' (Kd.R_new' ho0 (Kd.R_lt (by (with_reducible repeat (first | apply Kd.R_alloc | apply Kd.R_drewN | apply Kd.R_drew)); exact HO314.out))) (Kd.R_lt (by (with_reducible repeat (first | apply Kd.R_alloc | apply Kd.R_drewN | apply Kd.R_drew)); exact HO317.out))) (Kd.R_lt (by (with_reducible repeat (first | apply Kd.R_alloc | apply Kd.R_drewN | apply Kd.R_drew)); exact HO320.out))) (Kd.R_lt (by (with_reducible repeat (first | apply Kd.R_alloc | apply Kd.R_drewN | apply Kd.R_drew)); exact HO323.out))) (below_size (by repeat (first | (with_reducible first | exact HB.out | apply below_alloc | apply pw_below_drewN | apply below_drew1) | exact HB.out)))); have n5_ := Aside0.mk (below_step (by repeat (first | (with_reducible first | exact HB.out | apply below_alloc | apply pw_below_drewN | apply below_drew1) | exact HB.out)) hb); clear HO314; clear HO317; clear HO320; clear HO323; clear HB; have HO314 := n0_; have HO317 := n1_; have HO320 := n2_; have HO323 := n3_; have HO326 := n4_; have HB := n5_; clear n0_ n1_ n2_ n3_ n4_ n5_; (try clear hb); (try clear hb2); (try clear hk); (try clear hi); (try clear ho0); obtain ⟨Ao40, co40, eo40⟩ := Kd.R_slice HO323.out; subst eo40; obtain ⟨Ao41, co41, eo41⟩ := Kd.R_slice HO326.out; subst eo41) | ((with_reducible refine gate_callee (f := 15) rfl ?_); refine goesL_ (some 26) rfl rfl Try.func15 (by kernel_rfl) rfl #[.slice Ao40 t321.length co40, .slice Ao41 t324.length co41] rfl (by (try simp only [List.map_toArray, List.map_cons, List.map_nil]); first | done | rfl | (simp only [List.length_drop, List.length_take]; rfl)) ?_; (with_reducible refine (zigguratref01_Same.calls k _ _ t321 _ _ t324 true _ ?side1 ?side2 ?side3 ?side4 A10.out).mono ?_); (case side1 => repeat (first | exact (Kd.R_reads' HO323.out).2.2 | (with_reducible refine Kd.C_alloc ?_ _) | (with_reducible refine Kd.C_drewN ?_ _) | (with_reducible refine Kd.C_drew ?_))); (case side2 => exact (Kd.R_reads' HO323.out).2.1); (case side3 => repeat (first | exact (Kd.R_reads' HO326.out).2.2 | (with_reducible refine Kd.C_alloc ?_ _) | (with_reducible refine Kd.C_drewN ?_ _) | (with_reducible refine Kd.C_drew ?_))); (case side4 => exact (Kd.R_reads' HO326.out).2.1); rintro e w' ⟨rfl, ⟨nd, rfl⟩⟩; refine ⟨_, rfl, ?_⟩; obtain ⟨Ao42, co42, eo42⟩ := Kd.R_slice HO320.out; subst eo42) | (go_at_call 22; (with_reducible refine (nat_Add.calls k _ _ t321 _ _ t318 t328 _ ?side1 ?side2 ?side3 ?side4 A12.out).mono ?_); (case side1 => repeat (first | exact (Kd.R_reads' HO323.out).2.2 | (with_reducible refine Kd.C_alloc ?_ _) | (with_reducible refine Kd.C_drewN ?_ _) | (with_reducible refine Kd.C_drew ?_))); (case side2 => exact (Kd.R_reads' HO323.out).2.1); (case side3 => repeat (first | exact (Kd.R_reads' HO320.out).2.2 | (with_reducible refine Kd.C_alloc ?_ _) | (with_reducible refine Kd.C_drewN ?_ _) | (with_reducible refine Kd.C_drew ?_))); (case side4 => exact (Kd.R_reads' HO320.out).2.1); rintro e w43 ⟨v329, rfl, ho0, hb⟩; have n0_ := Aside0.mk (Kd.R_elder' (by (with_reducible repeat (first | apply Kd.R_alloc | apply Kd.R_drewN | apply Kd.R_drew)); exact HO314.out) (Kd.R_base ho0) hb); have n1_ := Aside0.mk (Kd.R_elder' (by (with_reducible repeat (first | apply Kd.R_alloc | apply Kd.R_drewN | apply Kd.R_drew)); exact HO317.out) (Kd.R_base ho0) hb); have n2_ := Aside0.mk (Kd.R_elder' (by (with_reducible repeat (first | apply Kd.R_alloc | apply Kd.R_drewN | apply Kd.R_drew)); exact HO320.out) (Kd.R_base ho0) hb); have n3_ := Aside0.mk (Kd.R_elder' (by (with_reducible repeat (first | apply Kd.R_alloc | apply Kd.R_drewN | apply Kd.R_drew)); exact HO323.out) (Kd.R_base ho0) hb); have n4_ := Aside0.mk (Kd.R_elder' (by (with_reducible repeat (first | apply Kd.R_alloc | apply Kd.R_drewN | apply Kd.R_drew)); exact HO326.out) (Kd.R_base ho0) hb); have n5_ := Aside0.mk (Kd.R_lower (Kd.R_new' (Kd.R_new' (Kd.R_new' (Kd.R_new' (Kd.R_new' ho0 (Kd.R_lt (by (with_reducible repeat (first | apply Kd.R_alloc | apply Kd.R_drewN | apply Kd.R_drew)); exact HO314.out))) (Kd.R_lt (by (with_reducible repeat (first | apply Kd.R_alloc | apply Kd.R_drewN | apply Kd.R_drew)); exact HO317.out))) (Kd.R_lt (by (with_reducible repeat (first | apply Kd.R_alloc | apply Kd.R_drewN | apply Kd.R_drew)); exact HO320.out))) (Kd.R_lt (by (with_reducible repeat (first | apply Kd.R_alloc | apply Kd.R_drewN | apply Kd.R_drew)); exact HO323.out))) (Kd.R_lt (by (with_reducible repeat (first | apply Kd.R_alloc | apply Kd.R_drewN | apply Kd.R_drew)); exact HO326.out))) (below_size (by repeat (first | (with_reducible first | exact HB.out | apply below_alloc | apply pw_below_drewN | apply below_drew1) | exact HB.out)))); have n6_ := Aside0.mk (below_step (by repeat (first | (with_reducible first | exact HB.out | apply below_alloc | apply pw_below_drewN | apply below_drew1) | exact HB.out)) hb); clear HO314; clear HO317; clear HO320; clear HO323; clear HO326; clear HB; have HO314 := n0_; have HO317 := n1_; have HO320 := n2_; have HO323 := n3_; have HO326 := n4_; have HO330 := n5_; have HB := n6_; clear n0_ n1_ n2_ n3_ n4_ n5_ n6_; (try clear hb); (try clear hb2); (try clear hk); (try clear hi); (try clear ho0)) | (go_at_call 22; (with_reducible refine (nat_Add.calls k _ _ t315 _ _ t318 t331 _ ?side1 ?side2 ?side3 ?side4 A13.out).mono ?_); (case side1 => repeat (first | exact (Kd.R_reads' HO317.out).2.2 | (with_reducible refine Kd.C_alloc ?_ _) | (with_reducible refine Kd.C_drewN ?_ _) | (with_reducible refine Kd.C_drew ?_))); (case side2 => exact (Kd.R_reads' HO317.out).2.1); (case side3 => repeat (first | exact (Kd.R_reads' HO320.out).2.2 | (with_reducible refine Kd.C_alloc ?_ _) | (with_reducible refine Kd.C_drewN ?_ _) | (with_reducible refine Kd.C_drew ?_))); (case side4 => exact (Kd.R_reads' HO320.out).2.1); rintro e w44 ⟨v332, rfl, ho0, hb⟩; have n0_ := Aside0.mk (Kd.R_elder' (by (with_reducible repeat (first | apply Kd.R_alloc | apply Kd.R_drewN | apply Kd.R_drew)); exact HO314.out) (Kd.R_base ho0) hb); have n1_ := Aside0.mk (Kd.R_elder' (by (with_reducible repeat (first | apply Kd.R_alloc | apply Kd.R_drewN | apply Kd.R_drew)); exact HO317.out) (Kd.R_base ho0) hb); have n2_ := Aside0.mk (Kd.R_elder' (by (with_reducible repeat (first | apply Kd.R_alloc | apply Kd.R_drewN | apply Kd.R_drew)); exact HO320.out) (Kd.R_base ho0) hb); have n3_ := Aside0.mk (Kd.R_elder' (by (with_reducible repeat (first | apply Kd.R_alloc | apply Kd.R_drewN | apply Kd.R_drew)); exact HO323.out) (Kd.R_base ho0) hb); have n4_ := Aside0.mk (Kd.R_elder' (by (with_reducible repeat (first | apply Kd.R_alloc | apply Kd.R_drewN | apply Kd.R_drew)); exact HO326.out) (Kd.R_base ho0) hb); have n5_ := Aside0.mk (Kd.R_elder' (by (with_reducible repeat (first | apply Kd.R_alloc | apply Kd.R_drewN | apply Kd.R_drew)); exact HO330.out) (Kd.R_base ho0) hb); have n6_ := Aside0.mk (Kd.R_lower (Kd.R_new' (Kd.R_new' (Kd.R_new' (Kd.R_new' (Kd.R_new' (Kd.R_new' ho0 (Kd.R_lt (by (with_reducible repeat (first | apply Kd.R_alloc | apply Kd.R_drewN | apply Kd.R_drew)); exact HO314.out))) (Kd.R_lt (by (with_reducible repeat (first | apply Kd.R_alloc | apply Kd.R_drewN | apply Kd.R_drew)); exact HO317.out))) (Kd.R_lt (by (with_reducible repeat (first | apply Kd.R_alloc | apply Kd.R_drewN | apply Kd.R_drew)); exact HO320.out))) (Kd.R_lt (by (with_reducible repeat (first | apply Kd.R_alloc | apply Kd.R_drewN | apply Kd.R_drew)); exact HO323.out))) (Kd.R_lt (by (with_reducible repeat (first | apply Kd.R_alloc | apply Kd.R_drewN | apply Kd.R_drew)); exact HO326.out))) (Kd.R_lt (by (with_reducible repeat (first | apply Kd.R_alloc | apply Kd.R_drewN | apply Kd.R_drew)); exact HO330.out))) (below_size (by repeat (first | (with_reducible first | exact HB.out | apply below_alloc | apply pw_below_drewN | apply below_drew1) | exact HB.out)))); have n7_ := Aside0.mk (below_step (by repeat (first | (with_reducible first | exact HB.out | apply below_alloc | apply pw_below_drewN | apply below_drew1) | exact HB.out)) hb); clear HO314; clear HO317; clear HO320; clear HO323; clear HO326; clear HO330; clear HB; have HO314 := n0_; have HO317 := n1_; have HO320 := n2_; have HO323 := n3_; have HO326 := n4_; have HO330 := n5_; have HO333 := n6_; have HB := n7_; clear n0_ n1_ n2_ n3_ n4_ n5_ n6_ n7_; (try clear hb); (try clear hb2); (try clear hk); (try clear hi); (try clear ho0); obtain ⟨Ao45, co45, eo45⟩ := Kd.R_slice HO333.out; subst eo45) | (go_at_call 22; (with_reducible refine (nat_Add.calls k _ _ t312 _ _ t331 t334 _ ?side1 ?side2 ?side3 ?side4 A14.out).mono ?_); (case side1 => repeat (first | exact (Kd.R_reads' HO314.out).2.2 | (with_reducible refine Kd.C_alloc ?_ _) | (with_reducible refine Kd.C_drewN ?_ _) | (with_reducible refine Kd.C_drew ?_))); (case side2 => exact (Kd.R_reads' HO314.out).2.1); (case side3 => repeat (first | exact (Kd.R_reads' HO333.out).2.2 | (with_reducible refine Kd.C_alloc ?_ _) | (with_reducible refine Kd.C_drewN ?_ _) | (with_reducible refine Kd.C_drew ?_))); (case side4 => exact (Kd.R_reads' HO333.out).2.1); rintro e w46 ⟨v335, rfl, ho0, hb⟩; have n0_ := Aside0.mk (Kd.R_elder' (by (with_reducible repeat (first | apply Kd.R_alloc | apply Kd.R_drewN | apply Kd.R_drew)); exact HO314.out) (Kd.R_base ho0) hb); have n1_ := Aside0.mk (Kd.R_elder' (by (with_reducible repeat (first | apply Kd.R_alloc | apply Kd.R_drewN | apply Kd.R_drew)); exact HO317.out) (Kd.R_base ho0) hb); have n2_ := Aside0.mk (Kd.R_elder' (by (with_reducible repeat (first | apply Kd.R_alloc | apply Kd.R_drewN | apply Kd.R_drew)); exact HO320.out) (Kd.R_base ho0) hb); have n3_ := Aside0.mk (Kd.R_elder' (by (with_reducible repeat (first | apply Kd.R_alloc | apply Kd.R_drewN | apply Kd.R_drew)); exact HO323.out) (Kd.R_base ho0) hb); have n4_ := Aside0.mk (Kd.R_elder' (by (with_reducible repeat (first | apply Kd.R_alloc | apply Kd.R_drewN | apply Kd.R_drew)); exact HO326.out) (Kd.R_base ho0) hb); have n5_ := Aside0.mk (Kd.R_elder' (by (with_reducible repeat (first | apply Kd.R_alloc | apply Kd.R_drewN | apply Kd.R_drew)); exact HO330.out) (Kd.R_base ho0) hb); have n6_ := Aside0.mk (Kd.R_elder' (by (with_reducible repeat (first | apply Kd.R_alloc | apply Kd.R_drewN | apply Kd.R_drew)); exact HO333.out) (Kd.R_base ho0) hb); have n7_ := Aside0.mk (Kd.R_lower (Kd.R_new' (Kd.R_new' (Kd.R_new' (Kd.R_new' (Kd.R_new' (Kd.R_new' (Kd.R_new' ho0 (Kd.R_lt (by (with_reducible repeat (first | apply Kd.R_alloc | apply Kd.R_drewN | apply Kd.R_drew)); exact HO314.out))) (Kd.R_lt (by (with_reducible repeat (first | apply Kd.R_alloc | apply Kd.R_drewN | apply Kd.R_drew)); exact HO317.out))) (Kd.R_lt (by (with_reducible repeat (first | apply Kd.R_alloc | apply Kd.R_drewN | apply Kd.R_drew)); exact HO320.out))) (Kd.R_lt (by (with_reducible repeat (first | apply Kd.R_alloc | apply Kd.R_drewN | apply Kd.R_drew)); exact HO323.out))) (Kd.R_lt (by (with_reducible repeat (first | apply Kd.R_alloc | apply Kd.R_drewN | apply Kd.R_drew)); exact HO326.out))) (Kd.R_lt (by (with_reducible repeat (first | apply Kd.R_alloc | apply Kd.R_drewN | apply Kd.R_drew)); exact HO330.out))) (Kd.R_lt (by (with_reducible repeat (first | apply Kd.R_alloc | apply Kd.R_drewN | apply Kd.R_drew)); exact HO333.out))) (below_size (by repeat (first | (with_reducible first | exact HB.out | apply below_alloc | apply pw_below_drewN | apply below_drew1) | exact HB.out)))); have n8_ := Aside0.mk (below_step (by repeat (first | (with_reducible first | exact HB.out | apply below_alloc | apply pw_below_drewN | apply below_drew1) | exact HB.out)) hb); clear HO314; clear HO317; clear HO320; clear HO323; clear HO326; clear HO330; clear HO333; clear HB; have HO314 := n0_; have HO317 := n1_; have HO320 := n2_; have HO323 := n3_; have HO326 := n4_; have HO330 := n5_; have HO333 := n6_; have HO336 := n7_; have HB := n8_; clear n0_ n1_ n2_ n3_ n4_ n5_ n6_ n7_ n8_; (try clear hb); (try clear hb2); (try clear hk); (try clear hi); (try clear ho0); obtain ⟨Ao47, co47, eo47⟩ := Kd.R_slice HO330.out; subst eo47; obtain ⟨Ao48, co48, eo48⟩ := Kd.R_slice HO336.out; subst eo48) | (go_at_call 15; (with_reducible refine (zigguratref01_Same.calls k _ _ t328 _ _ t334 true _ ?side1 ?side2 ?side3 ?side4 A15.out).mono ?_); (case side1 => repeat (first | exact (Kd.R_reads' HO330.out).2.2 | (with_reducible refine Kd.C_alloc ?_ _) | (with_reducible refine Kd.C_drewN ?_ _) | (with_reducible refine Kd.C_drew ?_))); (case side2 => exact (Kd.R_reads' HO330.out).2.1); (case side3 => repeat (first | exact (Kd.R_reads' HO336.out).2.2 | (with_reducible refine Kd.C_alloc ?_ _) | (with_reducible refine Kd.C_drewN ?_ _) | (with_reducible refine Kd.C_drew ?_))); (case side4 => exact (Kd.R_reads' HO336.out).2.1); rintro e w' ⟨rfl, ⟨nd, rfl⟩⟩) | (go_at_call 22; refine calls_of_args (args' := #[.slice Ao36 t312.length co36, .slice none (List.length ([] : List Int)) 0]) (by first | rfl) ?_; (with_reducible refine (nat_Add.calls k _ _ t312 _ _ ([] : List Int) t338 _ ?side1 ?side2 ?side3 ?side4 A17.out).mono ?_); (case side1 => repeat (first | exact (Kd.R_reads' HO314.out).2.2 | (with_reducible refine Kd.C_alloc ?_ _) | (with_reducible refine Kd.C_drewN ?_ _) | (with_reducible refine Kd.C_drew ?_))); (case side2 => exact (Kd.R_reads' HO314.out).2.1); (case side3 => exact Kd.C_nil _ _); (case side4 => exact Nat.le_refl _); rintro e w49 ⟨v339, rfl, ho0, hb⟩; have n0_ := Aside0.mk (Kd.R_elder' (by (with_reducible repeat (first | apply Kd.R_alloc | apply Kd.R_drewN | apply Kd.R_drew)); exact HO314.out) (Kd.R_base ho0) hb); have n1_ := Aside0.mk (Kd.R_elder' (by (with_reducible repeat (first | apply Kd.R_alloc | apply Kd.R_drewN | apply Kd.R_drew)); exact HO317.out) (Kd.R_base ho0) hb); have n2_ := Aside0.mk (Kd.R_elder' (by (with_reducible repeat (first | apply Kd.R_alloc | apply Kd.R_drewN | apply Kd.R_drew)); exact HO320.out) (Kd.R_base ho0) hb); have n3_ := Aside0.mk (Kd.R_elder' (by (with_reducible repeat (first | apply Kd.R_alloc | apply Kd.R_drewN | apply Kd.R_drew)); exact HO323.out) (Kd.R_base ho0) hb); have n4_ := Aside0.mk (Kd.R_elder' (by (with_reducible repeat (first | apply Kd.R_alloc | apply Kd.R_drewN | apply Kd.R_drew)); exact HO326.out) (Kd.R_base ho0) hb); have n5_ := Aside0.mk (Kd.R_elder' (by (with_reducible repeat (first | apply Kd.R_alloc | apply Kd.R_drewN | apply Kd.R_drew)); exact HO330.out) (Kd.R_base ho0) hb); have n6_ := Aside0.mk (Kd.R_elder' (by (with_reducible repeat (first | apply Kd.R_alloc | apply Kd.R_drewN | apply Kd.R_drew)); exact HO333.out) (Kd.R_base ho0) hb); have n7_ := Aside0.mk (Kd.R_elder' (by (with_reducible repeat (first | apply Kd.R_alloc | apply Kd.R_drewN | apply Kd.R_drew)); exact HO336.out) (Kd.R_base ho0) hb); have n8_ := Aside0.mk (Kd.R_lower (Kd.R_new' (Kd.R_new' (Kd.R_new' (Kd.R_new' (Kd.R_new' (Kd.R_new' (Kd.R_new' (Kd.R_new' ho0 (Kd.R_lt (by (with_reducible repeat (first | apply Kd.R_alloc | apply Kd.R_drewN | apply Kd.R_drew)); exact HO314.out))) (Kd.R_lt (by (with_reducible repeat (first | apply Kd.R_alloc | apply Kd.R_drewN | apply Kd.R_drew)); exact HO317.out))) (Kd.R_lt (by (with_reducible repeat (first | apply Kd.R_alloc | apply Kd.R_drewN | apply Kd.R_drew)); exact HO320.out))) (Kd.R_lt (by (with_reducible repeat (first | apply Kd.R_alloc | apply Kd.R_drewN | apply Kd.R_drew)); exact HO323.out))) (Kd.R_lt (by (with_reducible repeat (first | apply Kd.R_alloc | apply Kd.R_drewN | apply Kd.R_drew)); exact HO326.out))) (Kd.R_lt (by (with_reducible repeat (first | apply Kd.R_alloc | apply Kd.R_drewN | apply Kd.R_drew)); exact HO330.out))) (Kd.R_lt (by (with_reducible repeat (first | apply Kd.R_alloc | apply Kd.R_drewN | apply Kd.R_drew)); exact HO333.out))) (Kd.R_lt (by (with_reducible repeat (first | apply Kd.R_alloc | apply Kd.R_drewN | apply Kd.R_drew)); exact HO336.out))) (below_size (by repeat (first | (with_reducible first | exact HB.out | apply below_alloc | apply pw_below_drewN | apply below_drew1) | exact HB.out)))); have n9_ := Aside0.mk (below_step (by repeat (first | (with_reducible first | exact HB.out | apply below_alloc | apply pw_below_drewN | apply below_drew1) | exact HB.out)) hb); clear HO314; clear HO317; clear HO320; clear HO323; clear HO326; clear HO330; clear HO333; clear HO336; clear HB; have HO314 := n0_; have HO317 := n1_; have HO320 := n2_; have HO323 := n3_; have HO326 := n4_; have HO330 := n5_; have HO333 := n6_; have HO336 := n7_; have HO340 := n8_; have HB := n9_; clear n0_ n1_ n2_ n3_ n4_ n5_ n6_ n7_ n8_ n9_; (try clear hb); (try clear hb2); (try clear hk); (try clear hi); (try clear ho0); obtain ⟨Ao50, co50, eo50⟩ := Kd.R_slice HO340.out; subst eo50) | (go_at_call 15; (with_reducible refine (zigguratref01_Same.calls k _ _ t338 _ _ t312 true _ ?side1 ?side2 ?side3 ?side4 A18.out).mono ?_); (case side1 => repeat (first | exact (Kd.R_reads' HO340.out).2.2 | (with_reducible refine Kd.C_alloc ?_ _) | (with_reducible refine Kd.C_drewN ?_ _) | (with_reducible refine Kd.C_drew ?_))); (case side2 => exact (Kd.R_reads' HO340.out).2.1); (case side3 => repeat (first | exact (Kd.R_reads' HO314.out).2.2 | (with_reducible refine Kd.C_alloc ?_ _) | (with_reducible refine Kd.C_drewN ?_ _) | (with_reducible refine Kd.C_drew ?_))); (case side4 => exact (Kd.R_reads' HO314.out).2.1); rintro e w' ⟨rfl, ⟨nd, rfl⟩⟩) | (go_at_call 13; (with_reducible refine (nat_Right.calls _ _ t321 true _ ?side1 ?side2 A20.out).mono ?_); (case side1 => repeat (first | exact (Kd.R_reads' HO323.out).2.2 | (with_reducible refine Kd.C_alloc ?_ _) | (with_reducible refine Kd.C_drewN ?_ _) | (with_reducible refine Kd.C_drew ?_))); (case side2 => exact (Kd.R_reads' HO323.out).2.1); rintro e w' ⟨rfl, ⟨nd, rfl⟩⟩) | (go_at_call 26; (with_reducible refine (nat_Bits.calls _ _ t321 t343 _ ?side1 ?side2 A22.out).mono ?_); (case side1 => repeat (first | exact (Kd.R_reads' HO323.out).2.2 | (with_reducible refine Kd.C_alloc ?_ _) | (with_reducible refine Kd.C_drewN ?_ _) | (with_reducible refine Kd.C_drew ?_))); (case side2 => exact (Kd.R_reads' HO323.out).2.1); rintro e w' ⟨rfl, ⟨nd, rfl⟩⟩) | (go_at_call 26; (with_reducible refine (nat_Bits.calls _ _ t312 t344 _ ?side1 ?side2 A23.out).mono ?_); (case side1 => repeat (first | exact (Kd.R_reads' HO314.out).2.2 | (with_reducible refine Kd.C_alloc ?_ _) | (with_reducible refine Kd.C_drewN ?_ _) | (with_reducible refine Kd.C_drew ?_))); (case side2 => exact (Kd.R_reads' HO314.out).2.1); rintro e w' ⟨rfl, ⟨nd, rfl⟩⟩) | (go_at_call 26; (with_reducible refine (nat_Bits.calls _ _ t315 t345 _ ?side1 ?side2 A24.out).mono ?_); (case side1 => repeat (first | exact (Kd.R_reads' HO317.out).2.2 | (with_reducible refine Kd.C_alloc ?_ _) | (with_reducible refine Kd.C_drewN ?_ _) | (with_reducible refine Kd.C_drew ?_))); (case side2 => exact (Kd.R_reads' HO317.out).2.1); rintro e w' ⟨rfl, ⟨nd, rfl⟩⟩) | (go_at_call 26; (with_reducible refine (nat_Bits.calls _ _ t321 t343 _ ?side1 ?side2 A27.out).mono ?_); (case side1 => repeat (first | exact (Kd.R_reads' HO323.out).2.2 | (with_reducible refine Kd.C_alloc ?_ _) | (with_reducible refine Kd.C_drewN ?_ _) | (with_reducible refine Kd.C_drew ?_))); (case side2 => exact (Kd.R_reads' HO323.out).2.1); rintro e w' ⟨rfl, ⟨nd, rfl⟩⟩) | (go_at_call 26; (with_reducible refine (nat_Bits.calls _ _ t312 t344 _ ?side1 ?side2 A28.out).mono ?_); (case side1 => repeat (first | exact (Kd.R_reads' HO314.out).2.2 | (with_reducible refine Kd.C_alloc ?_ _) | (with_reducible refine Kd.C_drewN ?_ _) | (with_reducible refine Kd.C_drew ?_))); (case side2 => exact (Kd.R_reads' HO314.out).2.1); rintro e w' ⟨rfl, ⟨nd, rfl⟩⟩) | (go_at_call 26; (with_reducible refine (nat_Bits.calls _ _ t315 t345 _ ?side1 ?side2 A29.out).mono ?_); (case side1 => repeat (first | exact (Kd.R_reads' HO317.out).2.2 | (with_reducible refine Kd.C_alloc ?_ _) | (with_reducible refine Kd.C_drewN ?_ _) | (with_reducible refine Kd.C_drew ?_))); (case side2 => exact (Kd.R_reads' HO317.out).2.1); rintro e w' ⟨rfl, ⟨nd, rfl⟩⟩))
              go_ret
              exact ⟨by first | rfl | (simp [errW_none, errW_some] <;> rfl) | (simp only [← hji25, ← hji30]; first | rfl | (simp [errW_none, errW_some] <;> rfl)) | (simp [*, errW_none, errW_some] <;> rfl), by repeat (first | (with_reducible first | exact HB.out | apply below_alloc | apply pw_below_drewN | apply below_drew1) | exact HB.out)⟩
            · rw [if_neg c31] at H
              exact absurd H (by simp)
          · rw [if_neg c26] at H
            exact absurd H (by simp)
        · replace c21 := Bool.eq_false_iff.mpr c21
          subst c21
          have H1 : (none) = some r := by rw [if_neg (show ¬ (false = true) by decide)] at H; exact H
          clear H
          have H := H1
          clear H1
          exact absurd H (by simp)
      · replace c19 := Bool.eq_false_iff.mpr c19
        subst c19
        have H1 : (none) = some r := by rw [if_neg (show ¬ (false = true) by decide)] at H; exact H
        clear H
        have H := H1
        clear H1
        exact absurd H (by simp)
    · replace c16 := Bool.eq_false_iff.mpr c16
      subst c16
      have H1 : (none) = some r := by rw [if_neg (show ¬ (false = true) by decide)] at H; exact H
      clear H
      have H := H1
      clear H1
      exact absurd H (by simp)
  · replace c11 := Bool.eq_false_iff.mpr c11
    subst c11
    have H1 : (none) = some r := by rw [if_neg (show ¬ (false = true) by decide)] at H; exact H
    clear H
    have H := H1
    clear H1
    exact absurd H (by simp)

/-- THE ONE PURE STATEMENT of zigguratlaw01_NatSums: yours. -/
def zigguratlaw01_NatSums.Pure : Prop := ∀ (l0 : List Int) (l1 : List Int) (l2 : List Int), l0.length ≤ maxLen → l0.length * 4 ≤ 140737488351232 → (∀ x ∈ l0, (Lit.int .u32 x).wf = true) → l1.length ≤ maxLen → l1.length * 4 ≤ 140737488351232 → (∀ x ∈ l1, (Lit.int .u32 x).wf = true) → l2.length ≤ maxLen → l2.length * 4 ≤ 140737488351232 → (∀ x ∈ l2, (Lit.int .u32 x).wf = true) → ∃ k, zigguratlaw01_NatSums.f k l0 l1 l2 = some true
theorem zigguratlaw01_NatSums.walk (P : zigguratlaw01_NatSums.Pure) (a0 : Option Addr) (len0 cap0 : Nat) (z0 : List Int) (a1 : Option Addr) (len1 cap1 : Nat) (z1 : List Int) (a2 : Option Addr) (len2 cap2 : Nat) (z2 : List Int) (w : World) (w0 : (a0 = none ∧ len0 = 0 ∧ cap0 = 0 ∧ z0 = []) ∨ ∃ x, a0 = some x ∧ len0 ≤ cap0 ∧ cap0 ≤ maxLen ∧ z0.length = cap0 ∧ (∀ i, i < z0.length → w.cell? (x.add i) = some (.int .u32 (z0.getD i 0))) ∧ ∀ n ∈ z0, (Lit.int .u32 n).wf = true) (y0 : len0 * 4 ≤ 140737488351232) (w1 : (a1 = none ∧ len1 = 0 ∧ cap1 = 0 ∧ z1 = []) ∨ ∃ x, a1 = some x ∧ len1 ≤ cap1 ∧ cap1 ≤ maxLen ∧ z1.length = cap1 ∧ (∀ i, i < z1.length → w.cell? (x.add i) = some (.int .u32 (z1.getD i 0))) ∧ ∀ n ∈ z1, (Lit.int .u32 n).wf = true) (y1 : len1 * 4 ≤ 140737488351232) (w2 : (a2 = none ∧ len2 = 0 ∧ cap2 = 0 ∧ z2 = []) ∨ ∃ x, a2 = some x ∧ len2 ≤ cap2 ∧ cap2 ≤ maxLen ∧ z2.length = cap2 ∧ (∀ i, i < z2.length → w.cell? (x.add i) = some (.int .u32 (z2.getD i 0))) ∧ ∀ n ∈ z2, (Lit.int .u32 n).wf = true) (y2 : len2 * 4 ≤ 140737488351232) :
    Calls Try.prog 4 #[.slice a0 len0 cap0, .slice a1 len1 cap1, .slice a2 len2 cap2] w fun e w' => e = .returned (.bool true) ∧ Below w.heap.size w w' := by
  obtain ⟨l0, rfl, hr0, hm0, hw0, hc0⟩ := ReadsInt.ofRowC w0
  obtain ⟨l1, rfl, hr1, hm1, hw1, hc1⟩ := ReadsInt.ofRowC w1
  obtain ⟨l2, rfl, hr2, hm2, hw2, hc2⟩ := ReadsInt.ofRowC w2
  obtain ⟨k, h⟩ := P l0 l1 l2 hm0 y0 hw0 hm1 y1 hw1 hm2 y2 hw2
  refine (zigguratlaw01_NatSums.calls k _ _ l0 _ _ l1 _ _ l2 true w (Kd.C_of_reads (d := (0 : Int)) (h1 := fun _ => rfl) hr0) hc0 (Kd.C_of_reads (d := (0 : Int)) (h1 := fun _ => rfl) hr1) hc1 (Kd.C_of_reads (d := (0 : Int)) (h1 := fun _ => rfl) hr2) hc2 h).mono ?_
  rintro e w' ⟨rfl, hd⟩
  exact ⟨rfl, hd⟩

end Go.Proofs.Ytplkofflhacehaa.Q
