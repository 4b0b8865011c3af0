-- Written by programs of this session (a patched print, turned by hand) for this claim; Lean checks it.
import Derived.Test.YtplkofflhacehaaQ12
import Derived.WalkSmall
namespace Go.Proofs.Ytplkofflhacehaa.Q
open Go.RowKit Go.Proofs.YtplkofflhacehaaW.PrintWords Go.Proofs.YtplkofflhacehaaW.PrintLast Go.Proofs.YtplkofflhacehaaW.PrintMore
attribute [local go_sem] max2_int min2_int max_two min_two max_three min_three max_four min_four   -- for this text's walks alone
set_option linter.unusedVariables false
set_option linter.unusedSimpArgs false
theorem box2_ (w : World) {b0 b1 : Int} {l : List Int} (h : l = [b0, b1]) : Kd.C (Kd.int .u16) (w.alloc (.cells #[.int .u16 b0, .int .u16 b1] 24)) (some ⟨w.heap.size, 0, none⟩) l.length l ∧ Below w.heap.size w (w.alloc (.cells #[.int .u16 b0, .int .u16 b1] 24)) := by
  subst h
  refine ⟨Kd.C_of_reads (d := (0 : Int)) (h1 := fun _ => rfl) ⟨rfl, by simp, fun _ => ⟨_, rfl, fun i hi => ?_⟩⟩, (Below.refl _ w).alloc (Nat.le_refl _) _⟩
  have hc := cell_two_new w (.int .u16 b0) (.int .u16 b1) 24
  match i, hi with
  | 0, _ => exact hc 0 _ rfl
  | 1, _ => exact hc 1 _ rfl
/-! ### zigguratlaw01_NatShifts: function 7 -/
def zigguratlaw01_NatShifts.f (k : Nat) (l0 : List Int) (l1 : List Int) : Option (Bool) := (zigguratlaw01_head.f k).bind fun t371 => ((zigguratref01_Made.f k l0 40).bind fun t372 => (if 0 < (l1.length : Int) then (if 1 < (l1.length : Int) then ((nat_Shl.f k t372 (Int.tmod (wrap64 (rd l1 0)) 501)).bind fun t377 => ((nat_Shr.f k t377 (Int.tmod (wrap64 (rd l1 0)) 501)).bind fun t380 => ((zigguratref01_Same.f k t380 t372).bind fun t383 => (if t383 = true then ((nat_Shl.f k t377 (Int.tmod (wrap64 (rd l1 1)) 501)).bind fun t384 => ((nat_Shl.f k t372 (wrap64 ((Int.tmod (wrap64 (rd l1 0)) 501) + (Int.tmod (wrap64 (rd l1 1)) 501)))).bind fun t387 => ((zigguratref01_Same.f k t384 t387).bind fun t390 => (if t390 = true then ((nat_Shr.f k t372 (Int.tmod (wrap64 (rd l1 0)) 501)).bind fun t391 => ((nat_Shr.f k t391 (Int.tmod (wrap64 (rd l1 1)) 501)).bind fun t394 => ((nat_Shr.f k t372 (wrap64 ((Int.tmod (wrap64 (rd l1 0)) 501) + (Int.tmod (wrap64 (rd l1 1)) 501)))).bind fun t397 => ((zigguratref01_Same.f k t394 t397).bind fun t400 => (if t400 = true then ((nat_Shl.f k t372 1).bind fun t401 => ((nat_Add.f k t372 t372).bind fun t404 => ((zigguratref01_Same.f k t401 t404).bind fun t407 => (if t407 = true then ((nat_Shl.f k t372 0).bind fun t408 => ((zigguratref01_Same.f k t408 t372).bind fun t411 => (if t411 = true then ((nat_Shr.f k t372 0).bind fun t412 => ((zigguratref01_Same.f k t412 t372).bind fun t415 => (if t415 = true then ((nat_Right.f t377).bind fun t416 => (if t416 = true then (some t371) else (none))) else (none)))) else (none)))) else (none))))) else (none)))))) else (none))))) else (none))))) else (none)) else (none)))
theorem zigguratlaw01_NatShifts.mono : ∀ a0 a1 k, LeO (zigguratlaw01_NatShifts.f k a0 a1) (zigguratlaw01_NatShifts.f (k + 1) a0 a1) := by
  intro a0 a1 k
  unfold zigguratlaw01_NatShifts.f
  repeat' first
      | (with_reducible exact nat_Add.mono _ _ _)
      | (with_reducible exact nat_Shl.mono _ _ _)
      | (with_reducible exact nat_Shr.mono _ _ _)
      | (with_reducible exact zigguratlaw01_head.mono _)
      | (with_reducible exact zigguratref01_Made.mono _ _ _)
      | (with_reducible exact zigguratref01_Same.mono _ _ _)
      | (with_reducible exact LeO.refl _)
      | (with_reducible exact LeO.none _)
      | (with_reducible refine LeO.ite ?_ ?_)
      | (with_reducible refine LeO.bind ?_ (fun _ => ?_))
      | exact nat_Add.mono _ _ _
      | exact nat_Shl.mono _ _ _
      | exact nat_Shr.mono _ _ _
      | exact zigguratlaw01_head.mono _
      | exact zigguratref01_Made.mono _ _ _
      | exact zigguratref01_Same.mono _ _ _
      | exact LeO.none _
      | refine LeO.ite ?_ ?_
      | refine LeO.bind ?_ (fun _ => ?_)
def zigguratlaw01_NatShifts.T2 : Bool × List (List Nat × List Nat) := (true, [([], []), ([0], [0]), ([], []), ([2], [2]), ([3], [3]), ([4], [4]), ([], []), ([6], [6]), ([7], [7]), ([8], [8]), ([1, 1, 0, 1], [1]), ([5, 10, 0, 1, 2, 3, 4, 5, 10], [5]), ([9, 11, 0, 1, 2, 3, 4, 5, 6, 7, 8, 9, 10, 11], [9])])
def zigguratlaw01_NatShifts.B2 : List Nat := [0, 1, 0, 4, 12, 28, 0, 64, 192, 448, 3, 1087, 4095]
theorem zigguratlaw01_NatShifts.tab2 : rtab .any (opsOf Try.f7 2) = zigguratlaw01_NatShifts.T2 := by kernel_rfl
theorem zigguratlaw01_NatShifts.bits2 : waitsOk zigguratlaw01_NatShifts.T2.2 zigguratlaw01_NatShifts.B2 = true := by kernel_rfl
set_option maxHeartbeats 8000000 in
set_option maxRecDepth 100000 in
theorem zigguratlaw01_NatShifts.calls (k : Nat) (A0 : Option Addr) (c0 : Nat) (l0 : List Int) (b0 b1 : Int) (r : Bool) (wz : World) (hr0 : Kd.C (Kd.int .u32) wz A0 l0.length l0) (hc0 : l0.length ≤ c0) (h : zigguratlaw01_NatShifts.f k l0 [b0, b1] = some r) :
    Calls Try.prog 7 #[.slice A0 l0.length c0, .agg #[.int .u16 b0, .int .u16 b1]] wz fun e w' => e = .returned (.bool r) ∧ Below wz.heap.size wz w' := by
  have HR0 := Aside0.mk hr0
  have HC0 := Aside0.mk hc0
  clear hr0 hc0
  obtain ⟨l1, hl_⟩ : ∃ l_ : List Int, l_ = [b0, b1] := ⟨_, rfl⟩
  rw [← hl_] at h
  have HLL := Aside0.mk hl_
  clear hl_
  have H : ((zigguratlaw01_head.f k).bind fun t371 => ((zigguratref01_Made.f k l0 40).bind fun t372 => (if 0 < (l1.length : Int) then (if 1 < (l1.length : Int) then ((nat_Shl.f k t372 (Int.tmod (wrap64 (rd l1 0)) 501)).bind fun t377 => ((nat_Shr.f k t377 (Int.tmod (wrap64 (rd l1 0)) 501)).bind fun t380 => ((zigguratref01_Same.f k t380 t372).bind fun t383 => (if t383 = true then ((nat_Shl.f k t377 (Int.tmod (wrap64 (rd l1 1)) 501)).bind fun t384 => ((nat_Shl.f k t372 (wrap64 ((Int.tmod (wrap64 (rd l1 0)) 501) + (Int.tmod (wrap64 (rd l1 1)) 501)))).bind fun t387 => ((zigguratref01_Same.f k t384 t387).bind fun t390 => (if t390 = true then ((nat_Shr.f k t372 (Int.tmod (wrap64 (rd l1 0)) 501)).bind fun t391 => ((nat_Shr.f k t391 (Int.tmod (wrap64 (rd l1 1)) 501)).bind fun t394 => ((nat_Shr.f k t372 (wrap64 ((Int.tmod (wrap64 (rd l1 0)) 501) + (Int.tmod (wrap64 (rd l1 1)) 501)))).bind fun t397 => ((zigguratref01_Same.f k t394 t397).bind fun t400 => (if t400 = true then ((nat_Shl.f k t372 1).bind fun t401 => ((nat_Add.f k t372 t372).bind fun t404 => ((zigguratref01_Same.f k t401 t404).bind fun t407 => (if t407 = true then ((nat_Shl.f k t372 0).bind fun t408 => ((zigguratref01_Same.f k t408 t372).bind fun t411 => (if t411 = true then ((nat_Shr.f k t372 0).bind fun t412 => ((zigguratref01_Same.f k t412 t372).bind fun t415 => (if t415 = true then ((nat_Right.f t377).bind fun t416 => (if t416 = true then (some t371) else (none))) else (none)))) else (none)))) else (none))))) else (none)))))) else (none))))) else (none))))) else (none)) else (none)))) = some r := h
  clear h
  replace H := Option.bind_eq_some_iff.mp H
  obtain ⟨t371, A30, H⟩ := H
  replace H : ((zigguratref01_Made.f k l0 40).bind fun t372 => (if 0 < (l1.length : Int) then (if 1 < (l1.length : Int) then ((nat_Shl.f k t372 (Int.tmod (wrap64 (rd l1 0)) 501)).bind fun t377 => ((nat_Shr.f k t377 (Int.tmod (wrap64 (rd l1 0)) 501)).bind fun t380 => ((zigguratref01_Same.f k t380 t372).bind fun t383 => (if t383 = true then ((nat_Shl.f k t377 (Int.tmod (wrap64 (rd l1 1)) 501)).bind fun t384 => ((nat_Shl.f k t372 (wrap64 ((Int.tmod (wrap64 (rd l1 0)) 501) + (Int.tmod (wrap64 (rd l1 1)) 501)))).bind fun t387 => ((zigguratref01_Same.f k t384 t387).bind fun t390 => (if t390 = true then ((nat_Shr.f k t372 (Int.tmod (wrap64 (rd l1 0)) 501)).bind fun t391 => ((nat_Shr.f k t391 (Int.tmod (wrap64 (rd l1 1)) 501)).bind fun t394 => ((nat_Shr.f k t372 (wrap64 ((Int.tmod (wrap64 (rd l1 0)) 501) + (Int.tmod (wrap64 (rd l1 1)) 501)))).bind fun t397 => ((zigguratref01_Same.f k t394 t397).bind fun t400 => (if t400 = true then ((nat_Shl.f k t372 1).bind fun t401 => ((nat_Add.f k t372 t372).bind fun t404 => ((zigguratref01_Same.f k t401 t404).bind fun t407 => (if t407 = true then ((nat_Shl.f k t372 0).bind fun t408 => ((zigguratref01_Same.f k t408 t372).bind fun t411 => (if t411 = true then ((nat_Shr.f k t372 0).bind fun t412 => ((zigguratref01_Same.f k t412 t372).bind fun t415 => (if t415 = true then ((nat_Right.f t377).bind fun t416 => (if t416 = true then (some t371) else (none))) else (none)))) else (none)))) else (none))))) else (none)))))) else (none))))) else (none))))) else (none)) else (none))) = some r := H
  have A3 := Aside0.mk A30
  clear A30
  replace H := Option.bind_eq_some_iff.mp H
  obtain ⟨t372, A40, H⟩ := H
  replace H : (if 0 < (l1.length : Int) then (if 1 < (l1.length : Int) then ((nat_Shl.f k t372 (Int.tmod (wrap64 (rd l1 0)) 501)).bind fun t377 => ((nat_Shr.f k t377 (Int.tmod (wrap64 (rd l1 0)) 501)).bind fun t380 => ((zigguratref01_Same.f k t380 t372).bind fun t383 => (if t383 = true then ((nat_Shl.f k t377 (Int.tmod (wrap64 (rd l1 1)) 501)).bind fun t384 => ((nat_Shl.f k t372 (wrap64 ((Int.tmod (wrap64 (rd l1 0)) 501) + (Int.tmod (wrap64 (rd l1 1)) 501)))).bind fun t387 => ((zigguratref01_Same.f k t384 t387).bind fun t390 => (if t390 = true then ((nat_Shr.f k t372 (Int.tmod (wrap64 (rd l1 0)) 501)).bind fun t391 => ((nat_Shr.f k t391 (Int.tmod (wrap64 (rd l1 1)) 501)).bind fun t394 => ((nat_Shr.f k t372 (wrap64 ((Int.tmod (wrap64 (rd l1 0)) 501) + (Int.tmod (wrap64 (rd l1 1)) 501)))).bind fun t397 => ((zigguratref01_Same.f k t394 t397).bind fun t400 => (if t400 = true then ((nat_Shl.f k t372 1).bind fun t401 => ((nat_Add.f k t372 t372).bind fun t404 => ((zigguratref01_Same.f k t401 t404).bind fun t407 => (if t407 = true then ((nat_Shl.f k t372 0).bind fun t408 => ((zigguratref01_Same.f k t408 t372).bind fun t411 => (if t411 = true then ((nat_Shr.f k t372 0).bind fun t412 => ((zigguratref01_Same.f k t412 t372).bind fun t415 => (if t415 = true then ((nat_Right.f t377).bind fun t416 => (if t416 = true then (some t371) else (none))) else (none)))) else (none)))) else (none))))) else (none)))))) else (none))))) else (none))))) else (none)) else (none)) = some r := H
  have A4 := Aside0.mk A40
  clear A40
  by_cases c5 : 0 < (l1.length : Int)
  · rw [if_pos c5] at H
    have c5b0 : decide (0 < (l1.length : Int)) = true := decide_eq_true c5
    have c5b1 : decide (0 < l1.length) = true := decide_eq_true (by omega)
    clear c5
    by_cases c6 : 1 < (l1.length : Int)
    · rw [if_pos c6] at H
      have c6b0 : decide (1 < (l1.length : Int)) = true := decide_eq_true c6
      have c6b1 : decide (1 < l1.length) = true := decide_eq_true (by omega)
      clear c6
      replace H := Option.bind_eq_some_iff.mp H
      obtain ⟨t377, A70, H⟩ := H
      replace H : ((nat_Shr.f k t377 (Int.tmod (wrap64 (rd l1 0)) 501)).bind fun t380 => ((zigguratref01_Same.f k t380 t372).bind fun t383 => (if t383 = true then ((nat_Shl.f k t377 (Int.tmod (wrap64 (rd l1 1)) 501)).bind fun t384 => ((nat_Shl.f k t372 (wrap64 ((Int.tmod (wrap64 (rd l1 0)) 501) + (Int.tmod (wrap64 (rd l1 1)) 501)))).bind fun t387 => ((zigguratref01_Same.f k t384 t387).bind fun t390 => (if t390 = true then ((nat_Shr.f k t372 (Int.tmod (wrap64 (rd l1 0)) 501)).bind fun t391 => ((nat_Shr.f k t391 (Int.tmod (wrap64 (rd l1 1)) 501)).bind fun t394 => ((nat_Shr.f k t372 (wrap64 ((Int.tmod (wrap64 (rd l1 0)) 501) + (Int.tmod (wrap64 (rd l1 1)) 501)))).bind fun t397 => ((zigguratref01_Same.f k t394 t397).bind fun t400 => (if t400 = true then ((nat_Shl.f k t372 1).bind fun t401 => ((nat_Add.f k t372 t372).bind fun t404 => ((zigguratref01_Same.f k t401 t404).bind fun t407 => (if t407 = true then ((nat_Shl.f k t372 0).bind fun t408 => ((zigguratref01_Same.f k t408 t372).bind fun t411 => (if t411 = true then ((nat_Shr.f k t372 0).bind fun t412 => ((zigguratref01_Same.f k t412 t372).bind fun t415 => (if t415 = true then ((nat_Right.f t377).bind fun t416 => (if t416 = true then (some t371) else (none))) else (none)))) else (none)))) else (none))))) else (none)))))) else (none))))) else (none)))) = some r := H
      have A7 := Aside0.mk A70
      clear A70
      replace H := Option.bind_eq_some_iff.mp H
      obtain ⟨t380, A80, H⟩ := H
      replace H : ((zigguratref01_Same.f k t380 t372).bind fun t383 => (if t383 = true then ((nat_Shl.f k t377 (Int.tmod (wrap64 (rd l1 1)) 501)).bind fun t384 => ((nat_Shl.f k t372 (wrap64 ((Int.tmod (wrap64 (rd l1 0)) 501) + (Int.tmod (wrap64 (rd l1 1)) 501)))).bind fun t387 => ((zigguratref01_Same.f k t384 t387).bind fun t390 => (if t390 = true then ((nat_Shr.f k t372 (Int.tmod (wrap64 (rd l1 0)) 501)).bind fun t391 => ((nat_Shr.f k t391 (Int.tmod (wrap64 (rd l1 1)) 501)).bind fun t394 => ((nat_Shr.f k t372 (wrap64 ((Int.tmod (wrap64 (rd l1 0)) 501) + (Int.tmod (wrap64 (rd l1 1)) 501)))).bind fun t397 => ((zigguratref01_Same.f k t394 t397).bind fun t400 => (if t400 = true then ((nat_Shl.f k t372 1).bind fun t401 => ((nat_Add.f k t372 t372).bind fun t404 => ((zigguratref01_Same.f k t401 t404).bind fun t407 => (if t407 = true then ((nat_Shl.f k t372 0).bind fun t408 => ((zigguratref01_Same.f k t408 t372).bind fun t411 => (if t411 = true then ((nat_Shr.f k t372 0).bind fun t412 => ((zigguratref01_Same.f k t412 t372).bind fun t415 => (if t415 = true then ((nat_Right.f t377).bind fun t416 => (if t416 = true then (some t371) else (none))) else (none)))) else (none)))) else (none))))) else (none)))))) else (none))))) else (none))) = some r := H
      have A8 := Aside0.mk A80
      clear A80
      replace H := Option.bind_eq_some_iff.mp H
      obtain ⟨t383, A90, H⟩ := H
      replace H : (if t383 = true then ((nat_Shl.f k t377 (Int.tmod (wrap64 (rd l1 1)) 501)).bind fun t384 => ((nat_Shl.f k t372 (wrap64 ((Int.tmod (wrap64 (rd l1 0)) 501) + (Int.tmod (wrap64 (rd l1 1)) 501)))).bind fun t387 => ((zigguratref01_Same.f k t384 t387).bind fun t390 => (if t390 = true then ((nat_Shr.f k t372 (Int.tmod (wrap64 (rd l1 0)) 501)).bind fun t391 => ((nat_Shr.f k t391 (Int.tmod (wrap64 (rd l1 1)) 501)).bind fun t394 => ((nat_Shr.f k t372 (wrap64 ((Int.tmod (wrap64 (rd l1 0)) 501) + (Int.tmod (wrap64 (rd l1 1)) 501)))).bind fun t397 => ((zigguratref01_Same.f k t394 t397).bind fun t400 => (if t400 = true then ((nat_Shl.f k t372 1).bind fun t401 => ((nat_Add.f k t372 t372).bind fun t404 => ((zigguratref01_Same.f k t401 t404).bind fun t407 => (if t407 = true then ((nat_Shl.f k t372 0).bind fun t408 => ((zigguratref01_Same.f k t408 t372).bind fun t411 => (if t411 = true then ((nat_Shr.f k t372 0).bind fun t412 => ((zigguratref01_Same.f k t412 t372).bind fun t415 => (if t415 = true then ((nat_Right.f t377).bind fun t416 => (if t416 = true then (some t371) else (none))) else (none)))) else (none)))) else (none))))) else (none)))))) else (none))))) else (none)) = some r := H
      have A9 := Aside0.mk A90
      clear A90
      by_cases c10 : t383 = true
      · subst c10
        have H1 : ((nat_Shl.f k t377 (Int.tmod (wrap64 (rd l1 1)) 501)).bind fun t384 => ((nat_Shl.f k t372 (wrap64 ((Int.tmod (wrap64 (rd l1 0)) 501) + (Int.tmod (wrap64 (rd l1 1)) 501)))).bind fun t387 => ((zigguratref01_Same.f k t384 t387).bind fun t390 => (if t390 = true then ((nat_Shr.f k t372 (Int.tmod (wrap64 (rd l1 0)) 501)).bind fun t391 => ((nat_Shr.f k t391 (Int.tmod (wrap64 (rd l1 1)) 501)).bind fun t394 => ((nat_Shr.f k t372 (wrap64 ((Int.tmod (wrap64 (rd l1 0)) 501) + (Int.tmod (wrap64 (rd l1 1)) 501)))).bind fun t397 => ((zigguratref01_Same.f k t394 t397).bind fun t400 => (if t400 = true then ((nat_Shl.f k t372 1).bind fun t401 => ((nat_Add.f k t372 t372).bind fun t404 => ((zigguratref01_Same.f k t401 t404).bind fun t407 => (if t407 = true then ((nat_Shl.f k t372 0).bind fun t408 => ((zigguratref01_Same.f k t408 t372).bind fun t411 => (if t411 = true then ((nat_Shr.f k t372 0).bind fun t412 => ((zigguratref01_Same.f k t412 t372).bind fun t415 => (if t415 = true then ((nat_Right.f t377).bind fun t416 => (if t416 = true then (some t371) else (none))) else (none)))) else (none)))) else (none))))) else (none)))))) else (none))))) = some r := by rw [if_pos rfl] at H; exact H
        clear H
        have H := H1
        clear H1
        replace H := Option.bind_eq_some_iff.mp H
        obtain ⟨t384, A110, H⟩ := H
        replace H : ((nat_Shl.f k t372 (wrap64 ((Int.tmod (wrap64 (rd l1 0)) 501) + (Int.tmod (wrap64 (rd l1 1)) 501)))).bind fun t387 => ((zigguratref01_Same.f k t384 t387).bind fun t390 => (if t390 = true then ((nat_Shr.f k t372 (Int.tmod (wrap64 (rd l1 0)) 501)).bind fun t391 => ((nat_Shr.f k t391 (Int.tmod (wrap64 (rd l1 1)) 501)).bind fun t394 => ((nat_Shr.f k t372 (wrap64 ((Int.tmod (wrap64 (rd l1 0)) 501) + (Int.tmod (wrap64 (rd l1 1)) 501)))).bind fun t397 => ((zigguratref01_Same.f k t394 t397).bind fun t400 => (if t400 = true then ((nat_Shl.f k t372 1).bind fun t401 => ((nat_Add.f k t372 t372).bind fun t404 => ((zigguratref01_Same.f k t401 t404).bind fun t407 => (if t407 = true then ((nat_Shl.f k t372 0).bind fun t408 => ((zigguratref01_Same.f k t408 t372).bind fun t411 => (if t411 = true then ((nat_Shr.f k t372 0).bind fun t412 => ((zigguratref01_Same.f k t412 t372).bind fun t415 => (if t415 = true then ((nat_Right.f t377).bind fun t416 => (if t416 = true then (some t371) else (none))) else (none)))) else (none)))) else (none))))) else (none)))))) else (none)))) = some r := H
        have A11 := Aside0.mk A110
        clear A110
        replace H := Option.bind_eq_some_iff.mp H
        obtain ⟨t387, A120, H⟩ := H
        replace H : ((zigguratref01_Same.f k t384 t387).bind fun t390 => (if t390 = true then ((nat_Shr.f k t372 (Int.tmod (wrap64 (rd l1 0)) 501)).bind fun t391 => ((nat_Shr.f k t391 (Int.tmod (wrap64 (rd l1 1)) 501)).bind fun t394 => ((nat_Shr.f k t372 (wrap64 ((Int.tmod (wrap64 (rd l1 0)) 501) + (Int.tmod (wrap64 (rd l1 1)) 501)))).bind fun t397 => ((zigguratref01_Same.f k t394 t397).bind fun t400 => (if t400 = true then ((nat_Shl.f k t372 1).bind fun t401 => ((nat_Add.f k t372 t372).bind fun t404 => ((zigguratref01_Same.f k t401 t404).bind fun t407 => (if t407 = true then ((nat_Shl.f k t372 0).bind fun t408 => ((zigguratref01_Same.f k t408 t372).bind fun t411 => (if t411 = true then ((nat_Shr.f k t372 0).bind fun t412 => ((zigguratref01_Same.f k t412 t372).bind fun t415 => (if t415 = true then ((nat_Right.f t377).bind fun t416 => (if t416 = true then (some t371) else (none))) else (none)))) else (none)))) else (none))))) else (none)))))) else (none))) = some r := H
        have A12 := Aside0.mk A120
        clear A120
        replace H := Option.bind_eq_some_iff.mp H
        obtain ⟨t390, A130, H⟩ := H
        replace H : (if t390 = true then ((nat_Shr.f k t372 (Int.tmod (wrap64 (rd l1 0)) 501)).bind fun t391 => ((nat_Shr.f k t391 (Int.tmod (wrap64 (rd l1 1)) 501)).bind fun t394 => ((nat_Shr.f k t372 (wrap64 ((Int.tmod (wrap64 (rd l1 0)) 501) + (Int.tmod (wrap64 (rd l1 1)) 501)))).bind fun t397 => ((zigguratref01_Same.f k t394 t397).bind fun t400 => (if t400 = true then ((nat_Shl.f k t372 1).bind fun t401 => ((nat_Add.f k t372 t372).bind fun t404 => ((zigguratref01_Same.f k t401 t404).bind fun t407 => (if t407 = true then ((nat_Shl.f k t372 0).bind fun t408 => ((zigguratref01_Same.f k t408 t372).bind fun t411 => (if t411 = true then ((nat_Shr.f k t372 0).bind fun t412 => ((zigguratref01_Same.f k t412 t372).bind fun t415 => (if t415 = true then ((nat_Right.f t377).bind fun t416 => (if t416 = true then (some t371) else (none))) else (none)))) else (none)))) else (none))))) else (none)))))) else (none)) = some r := H
        have A13 := Aside0.mk A130
        clear A130
        by_cases c14 : t390 = true
        · subst c14
          have H1 : ((nat_Shr.f k t372 (Int.tmod (wrap64 (rd l1 0)) 501)).bind fun t391 => ((nat_Shr.f k t391 (Int.tmod (wrap64 (rd l1 1)) 501)).bind fun t394 => ((nat_Shr.f k t372 (wrap64 ((Int.tmod (wrap64 (rd l1 0)) 501) + (Int.tmod (wrap64 (rd l1 1)) 501)))).bind fun t397 => ((zigguratref01_Same.f k t394 t397).bind fun t400 => (if t400 = true then ((nat_Shl.f k t372 1).bind fun t401 => ((nat_Add.f k t372 t372).bind fun t404 => ((zigguratref01_Same.f k t401 t404).bind fun t407 => (if t407 = true then ((nat_Shl.f k t372 0).bind fun t408 => ((zigguratref01_Same.f k t408 t372).bind fun t411 => (if t411 = true then ((nat_Shr.f k t372 0).bind fun t412 => ((zigguratref01_Same.f k t412 t372).bind fun t415 => (if t415 = true then ((nat_Right.f t377).bind fun t416 => (if t416 = true then (some t371) else (none))) else (none)))) else (none)))) else (none))))) else (none)))))) = some r := by rw [if_pos rfl] at H; exact H
          clear H
          have H := H1
          clear H1
          replace H := Option.bind_eq_some_iff.mp H
          obtain ⟨t391, A150, H⟩ := H
          replace H : ((nat_Shr.f k t391 (Int.tmod (wrap64 (rd l1 1)) 501)).bind fun t394 => ((nat_Shr.f k t372 (wrap64 ((Int.tmod (wrap64 (rd l1 0)) 501) + (Int.tmod (wrap64 (rd l1 1)) 501)))).bind fun t397 => ((zigguratref01_Same.f k t394 t397).bind fun t400 => (if t400 = true then ((nat_Shl.f k t372 1).bind fun t401 => ((nat_Add.f k t372 t372).bind fun t404 => ((zigguratref01_Same.f k t401 t404).bind fun t407 => (if t407 = true then ((nat_Shl.f k t372 0).bind fun t408 => ((zigguratref01_Same.f k t408 t372).bind fun t411 => (if t411 = true then ((nat_Shr.f k t372 0).bind fun t412 => ((zigguratref01_Same.f k t412 t372).bind fun t415 => (if t415 = true then ((nat_Right.f t377).bind fun t416 => (if t416 = true then (some t371) else (none))) else (none)))) else (none)))) else (none))))) else (none))))) = some r := H
          have A15 := Aside0.mk A150
          clear A150
          replace H := Option.bind_eq_some_iff.mp H
          obtain ⟨t394, A160, H⟩ := H
          replace H : ((nat_Shr.f k t372 (wrap64 ((Int.tmod (wrap64 (rd l1 0)) 501) + (Int.tmod (wrap64 (rd l1 1)) 501)))).bind fun t397 => ((zigguratref01_Same.f k t394 t397).bind fun t400 => (if t400 = true then ((nat_Shl.f k t372 1).bind fun t401 => ((nat_Add.f k t372 t372).bind fun t404 => ((zigguratref01_Same.f k t401 t404).bind fun t407 => (if t407 = true then ((nat_Shl.f k t372 0).bind fun t408 => ((zigguratref01_Same.f k t408 t372).bind fun t411 => (if t411 = true then ((nat_Shr.f k t372 0).bind fun t412 => ((zigguratref01_Same.f k t412 t372).bind fun t415 => (if t415 = true then ((nat_Right.f t377).bind fun t416 => (if t416 = true then (some t371) else (none))) else (none)))) else (none)))) else (none))))) else (none)))) = some r := H
          have A16 := Aside0.mk A160
          clear A160
          replace H := Option.bind_eq_some_iff.mp H
          obtain ⟨t397, A170, H⟩ := H
          replace H : ((zigguratref01_Same.f k t394 t397).bind fun t400 => (if t400 = true then ((nat_Shl.f k t372 1).bind fun t401 => ((nat_Add.f k t372 t372).bind fun t404 => ((zigguratref01_Same.f k t401 t404).bind fun t407 => (if t407 = true then ((nat_Shl.f k t372 0).bind fun t408 => ((zigguratref01_Same.f k t408 t372).bind fun t411 => (if t411 = true then ((nat_Shr.f k t372 0).bind fun t412 => ((zigguratref01_Same.f k t412 t372).bind fun t415 => (if t415 = true then ((nat_Right.f t377).bind fun t416 => (if t416 = true then (some t371) else (none))) else (none)))) else (none)))) else (none))))) else (none))) = some r := H
          have A17 := Aside0.mk A170
          clear A170
          replace H := Option.bind_eq_some_iff.mp H
          obtain ⟨t400, A180, H⟩ := H
          replace H : (if t400 = true then ((nat_Shl.f k t372 1).bind fun t401 => ((nat_Add.f k t372 t372).bind fun t404 => ((zigguratref01_Same.f k t401 t404).bind fun t407 => (if t407 = true then ((nat_Shl.f k t372 0).bind fun t408 => ((zigguratref01_Same.f k t408 t372).bind fun t411 => (if t411 = true then ((nat_Shr.f k t372 0).bind fun t412 => ((zigguratref01_Same.f k t412 t372).bind fun t415 => (if t415 = true then ((nat_Right.f t377).bind fun t416 => (if t416 = true then (some t371) else (none))) else (none)))) else (none)))) else (none))))) else (none)) = some r := H
          have A18 := Aside0.mk A180
          clear A180
          by_cases c19 : t400 = true
          · subst c19
            have H1 : ((nat_Shl.f k t372 1).bind fun t401 => ((nat_Add.f k t372 t372).bind fun t404 => ((zigguratref01_Same.f k t401 t404).bind fun t407 => (if t407 = true then ((nat_Shl.f k t372 0).bind fun t408 => ((zigguratref01_Same.f k t408 t372).bind fun t411 => (if t411 = true then ((nat_Shr.f k t372 0).bind fun t412 => ((zigguratref01_Same.f k t412 t372).bind fun t415 => (if t415 = true then ((nat_Right.f t377).bind fun t416 => (if t416 = true then (some t371) else (none))) else (none)))) else (none)))) else (none))))) = some r := by rw [if_pos rfl] at H; exact H
            clear H
            have H := H1
            clear H1
            replace H := Option.bind_eq_some_iff.mp H
            obtain ⟨t401, A200, H⟩ := H
            replace H : ((nat_Add.f k t372 t372).bind fun t404 => ((zigguratref01_Same.f k t401 t404).bind fun t407 => (if t407 = true then ((nat_Shl.f k t372 0).bind fun t408 => ((zigguratref01_Same.f k t408 t372).bind fun t411 => (if t411 = true then ((nat_Shr.f k t372 0).bind fun t412 => ((zigguratref01_Same.f k t412 t372).bind fun t415 => (if t415 = true then ((nat_Right.f t377).bind fun t416 => (if t416 = true then (some t371) else (none))) else (none)))) else (none)))) else (none)))) = some r := H
            have A20 := Aside0.mk A200
            clear A200
            replace H := Option.bind_eq_some_iff.mp H
            obtain ⟨t404, A210, H⟩ := H
            replace H : ((zigguratref01_Same.f k t401 t404).bind fun t407 => (if t407 = true then ((nat_Shl.f k t372 0).bind fun t408 => ((zigguratref01_Same.f k t408 t372).bind fun t411 => (if t411 = true then ((nat_Shr.f k t372 0).bind fun t412 => ((zigguratref01_Same.f k t412 t372).bind fun t415 => (if t415 = true then ((nat_Right.f t377).bind fun t416 => (if t416 = true then (some t371) else (none))) else (none)))) else (none)))) else (none))) = some r := H
            have A21 := Aside0.mk A210
            clear A210
            replace H := Option.bind_eq_some_iff.mp H
            obtain ⟨t407, A220, H⟩ := H
            replace H : (if t407 = true then ((nat_Shl.f k t372 0).bind fun t408 => ((zigguratref01_Same.f k t408 t372).bind fun t411 => (if t411 = true then ((nat_Shr.f k t372 0).bind fun t412 => ((zigguratref01_Same.f k t412 t372).bind fun t415 => (if t415 = true then ((nat_Right.f t377).bind fun t416 => (if t416 = true then (some t371) else (none))) else (none)))) else (none)))) else (none)) = some r := H
            have A22 := Aside0.mk A220
            clear A220
            by_cases c23 : t407 = true
            · subst c23
              have H1 : ((nat_Shl.f k t372 0).bind fun t408 => ((zigguratref01_Same.f k t408 t372).bind fun t411 => (if t411 = true then ((nat_Shr.f k t372 0).bind fun t412 => ((zigguratref01_Same.f k t412 t372).bind fun t415 => (if t415 = true then ((nat_Right.f t377).bind fun t416 => (if t416 = true then (some t371) else (none))) else (none)))) else (none)))) = some r := by rw [if_pos rfl] at H; exact H
              clear H
              have H := H1
              clear H1
              replace H := Option.bind_eq_some_iff.mp H
              obtain ⟨t408, A240, H⟩ := H
              replace H : ((zigguratref01_Same.f k t408 t372).bind fun t411 => (if t411 = true then ((nat_Shr.f k t372 0).bind fun t412 => ((zigguratref01_Same.f k t412 t372).bind fun t415 => (if t415 = true then ((nat_Right.f t377).bind fun t416 => (if t416 = true then (some t371) else (none))) else (none)))) else (none))) = some r := H
              have A24 := Aside0.mk A240
              clear A240
              replace H := Option.bind_eq_some_iff.mp H
              obtain ⟨t411, A250, H⟩ := H
              replace H : (if t411 = true then ((nat_Shr.f k t372 0).bind fun t412 => ((zigguratref01_Same.f k t412 t372).bind fun t415 => (if t415 = true then ((nat_Right.f t377).bind fun t416 => (if t416 = true then (some t371) else (none))) else (none)))) else (none)) = some r := H
              have A25 := Aside0.mk A250
              clear A250
              by_cases c26 : t411 = true
              · subst c26
                have H1 : ((nat_Shr.f k t372 0).bind fun t412 => ((zigguratref01_Same.f k t412 t372).bind fun t415 => (if t415 = true then ((nat_Right.f t377).bind fun t416 => (if t416 = true then (some t371) else (none))) else (none)))) = some r := by rw [if_pos rfl] at H; exact H
                clear H
                have H := H1
                clear H1
                replace H := Option.bind_eq_some_iff.mp H
                obtain ⟨t412, A270, H⟩ := H
                replace H : ((zigguratref01_Same.f k t412 t372).bind fun t415 => (if t415 = true then ((nat_Right.f t377).bind fun t416 => (if t416 = true then (some t371) else (none))) else (none))) = some r := H
                have A27 := Aside0.mk A270
                clear A270
                replace H := Option.bind_eq_some_iff.mp H
                obtain ⟨t415, A280, H⟩ := H
                replace H : (if t415 = true then ((nat_Right.f t377).bind fun t416 => (if t416 = true then (some t371) else (none))) else (none)) = some r := H
                have A28 := Aside0.mk A280
                clear A280
                by_cases c29 : t415 = true
                · subst c29
                  have H1 : ((nat_Right.f t377).bind fun t416 => (if t416 = true then (some t371) else (none))) = some r := by rw [if_pos rfl] at H; exact H
                  clear H
                  have H := H1
                  clear H1
                  replace H := Option.bind_eq_some_iff.mp H
                  obtain ⟨t416, A300, H⟩ := H
                  replace H : (if t416 = true then (some t371) else (none)) = some r := H
                  have A30 := Aside0.mk A300
                  clear A300
                  by_cases c31 : t416 = true
                  · subst c31
                    have H1 : (some t371) = some r := by rw [if_pos rfl] at H; exact H
                    clear H
                    have H := H1
                    clear H1
                    obtain rfl := Option.some.inj H
                    go_enter Try.func7, Try.ntmps7
                    (try simp only [List.append])
                    try go_wp2_with (first | ((with_reducible refine gate_callee (f := 12) rfl ?_); obtain ⟨hA_, hB_⟩ := box2_ wz HLL.out; have hC0_ := Kd.C_alloc HR0.out (.cells #[.int .u16 b0, .int .u16 b1] 24); generalize (World.alloc wz (.cells #[.int .u16 b0, .int .u16 b1] 24)) = w at hA_ hB_ hC0_ ⊢; generalize (some ⟨wz.heap.size, 0, none⟩ : Option Addr) = A1 at hA_ ⊢; clear HR0; have HR0 := Aside0.mk hC0_; clear hC0_; have HR1 := Aside0.mk hA_; have HW := Aside0.mk hB_; clear hA_ hB_; have HB := Aside0.mk (Below.refl w.heap.size w); refine goesL_ (some 10) rfl rfl Try.func12 (by kernel_rfl) rfl #[] rfl (by (try simp only [List.map_toArray, List.map_cons, List.map_nil]); first | done | rfl | (simp only [List.length_drop, List.length_take]; rfl)) ?_; (with_reducible refine (zigguratlaw01_head.calls k  t371 _ A3.out).mono ?_); rintro e w32 ⟨rfl, hb⟩; refine ⟨_, rfl, ?_⟩; have n0_ := Aside0.mk (below_step (by repeat (first | (with_reducible first | exact HB.out | apply below_alloc | apply pw_below_drewN | apply below_drew1) | exact HB.out)) hb); clear HB; have HB := n0_; clear n0_; (try clear hb); (try clear hb2); (try clear hk); (try clear hi)))
                    have n0_ := Aside0.mk (below_drew1 HB.out)
                    clear HB
                    have HB := n0_
                    clear n0_
                    have p375 : 0 ≤ (0 : Int) := (by omega)
                    have q375 : 0 < (l1.length : Int) := of_decide_eq_true (by first | (with_reducible assumption) | assumption)
                    obtain ⟨ad375, e375, hx375_0⟩ := Kd.at_int HR1.out 0 p375 q375
                    have hw375_0 := hx375_0
                    (try rw [show ((0 : Int)).toNat = 0 from rfl] at hw375_0)
                    (try rw [show 0 * 1 = 0 from rfl] at hw375_0)
                    (try rw [Addr.add_zero'] at hw375_0)
                    cases e375
                    have qi375 : (0 < l1.length) = True := eq_true (by omega)
                    (try rw [show ((0 : Int)).toNat = 0 from rfl] at hx375_0)
                    (try rw [Addr.add_zero'] at hx375_0)
                    replace hx375_0 := (HB.out.cell (World.block_lt_of_cell? w _ hx375_0)).trans hx375_0
                    replace p375 := eq_true p375
                    replace q375 := eq_true q375
                    have p376 : 0 ≤ (1 : Int) := (by omega)
                    have q376 : 1 < (l1.length : Int) := of_decide_eq_true (by first | (with_reducible assumption) | assumption)
                    obtain ⟨ad376, e376, hx376_0⟩ := Kd.at_int HR1.out 1 p376 q376
                    have hw376_0 := hx376_0
                    (try rw [show ((1 : Int)).toNat = 1 from rfl] at hw376_0)
                    (try rw [show 1 * 1 = 1 from rfl] at hw376_0)
                    (try simp only [Nat.reduceMul, Nat.reduceEqDiff, Go.Addr.add, ↓reduceIte] at hw376_0)
                    obtain rfl : ad375 = ad376 := (by injection e376)
                    (try simp only [show (1 : Int).toNat = 1 from rfl, Nat.reduceMul, Nat.reduceEqDiff, Go.Addr.add, ↓reduceIte] at hx376_0)
                    have qi376 : (1 < l1.length) = True := eq_true (by omega)
                    (try rw [show ((1 : Int)).toNat = 1 from rfl] at hx376_0)
                    replace hx376_0 := (HB.out.cell (World.block_lt_of_cell? w _ hx376_0)).trans hx376_0
                    replace p376 := eq_true p376
                    replace q376 := eq_true q376
                    refine start_ (n := 13) (S := fun w' => w'.cell? ad375 = some (.int .u16 (rd l1 0)) ∧ w'.cell? ⟨ad375.block, ad375.off + 1, none⟩ = some (.int .u16 (rd l1 1))) (ds := []) #[false, false, false, false, false, false, false, false, false, false, false, false, false] (by kernel_rfl) rfl rfl ⟨((HB.out.cell (World.block_lt_of_cell? w _ hw375_0)).trans hw375_0), ((HB.out.cell (World.block_lt_of_cell? w _ hw376_0)).trans hw376_0)⟩ (fun hHeld => ?_); refine with_tabW zigguratlaw01_NatShifts.tab2 zigguratlaw01_NatShifts.bits2 (fun HT_ HW_ => ?_)
                    generalize w32.drew = w33 at HB hx375_0 hx376_0 hHeld ⊢
                    refine pure_ (i := 0) (N := some 11) (v := ?_) (a' := ?_) #[true, false, false, false, false, false, false, false, false, false, false, false, false] rfl rfl (any_of HT_.out (by kernel_rfl)) (fun _ _ _ h => h) (Or.inl ⟨by rfl, ?_⟩) ?_ ?_
                    rotate_left
                    · intro w'
                      go_simp
                      with_reducible rfl
                    rotate_left
                    · simp only [Act.put, List.setIfInBounds_toArray, List.set_cons_zero, List.set_cons_succ, i64_w, i32_w]
                      rfl
                    refine pure_ (i := 2) (N := some 13) (v := ?_) (a' := ?_) #[true, false, true, false, false, false, false, false, false, false, false, false, false] rfl rfl (any_of HT_.out (by kernel_rfl)) (fun _ _ _ h => h) (Or.inl ⟨by rfl, ?_⟩) ?_ ?_
                    rotate_left
                    · intro w'
                      go_simp
                      with_reducible rfl
                    rotate_left
                    · simp only [Act.put, List.setIfInBounds_toArray, List.set_cons_zero, List.set_cons_succ, i64_w, i32_w]
                      rfl
                    refine pure_ (i := 6) (N := some 17) (v := ?_) (a' := ?_) #[true, false, true, false, false, false, true, false, false, false, false, false, false] rfl rfl (any_of HT_.out (by kernel_rfl)) (fun _ _ _ h => h) (Or.inl ⟨by rfl, ?_⟩) ?_ ?_
                    rotate_left
                    · intro w'
                      go_simp
                      with_reducible rfl
                    rotate_left
                    · simp only [Act.put, List.setIfInBounds_toArray, List.set_cons_zero, List.set_cons_succ, i64_w, i32_w]
                      rfl
                    refine take_ (i := 3) (N := some 14) (v := ?_) (a' := ?_) #[true, false, true, true, false, false, true, false, false, false, false, false, false] rfl rfl (take_ofW HT_.out HW_.out (by kernel_rfl)) (fun _ _ _ h => h) (Or.inl ⟨by rfl, ?_⟩) hHeld ?_ ?_
                    rotate_left
                    · rintro w' ⟨s0, s1⟩
                      go_simp
                      with_reducible rfl
                    rotate_left
                    · simp only [Act.put, List.setIfInBounds_toArray, List.set_cons_zero, List.set_cons_succ, i64_w, i32_w]
                      rfl
                    refine pure_ (i := 4) (N := some 15) (v := ?_) (a' := ?_) #[true, false, true, true, true, false, true, false, false, false, false, false, false] rfl rfl (any_of HT_.out (by kernel_rfl)) (fun _ _ _ h => h) (Or.inl ⟨by rfl, ?_⟩) ?_ ?_
                    rotate_left
                    · intro w'
                      go_simp
                      with_reducible rfl
                    rotate_left
                    · simp only [Act.put, List.setIfInBounds_toArray, List.set_cons_zero, List.set_cons_succ, i64_w, i32_w]
                      rfl
                    refine pure_ (i := 5) (N := some 16) (v := ?_) (a' := ?_) #[true, false, true, true, true, true, true, false, false, false, false, false, false] rfl rfl (any_of HT_.out (by kernel_rfl)) (fun _ _ _ h => h) (Or.inl ⟨by rfl, ?_⟩) ?_ ?_
                    rotate_left
                    · intro w'
                      go_simp
                      with_reducible rfl
                    rotate_left
                    · simp only [Act.put, List.setIfInBounds_toArray, List.set_cons_zero, List.set_cons_succ, i64_w, i32_w]
                      rfl
                    refine take_ (i := 7) (N := some 18) (v := ?_) (a' := ?_) #[true, false, true, true, true, true, true, true, false, false, false, false, false] rfl rfl (take_ofW HT_.out HW_.out (by kernel_rfl)) (fun _ _ _ h => h) (Or.inl ⟨by rfl, ?_⟩) hHeld ?_ ?_
                    rotate_left
                    · rintro w' ⟨s0, s1⟩
                      go_simp
                      with_reducible rfl
                    rotate_left
                    · simp only [Act.put, List.setIfInBounds_toArray, List.set_cons_zero, List.set_cons_succ, i64_w, i32_w]
                      rfl
                    refine pure_ (i := 8) (N := some 19) (v := ?_) (a' := ?_) #[true, false, true, true, true, true, true, true, true, false, false, false, false] rfl rfl (any_of HT_.out (by kernel_rfl)) (fun _ _ _ h => h) (Or.inl ⟨by rfl, ?_⟩) ?_ ?_
                    rotate_left
                    · intro w'
                      go_simp
                      with_reducible rfl
                    rotate_left
                    · simp only [Act.put, List.setIfInBounds_toArray, List.set_cons_zero, List.set_cons_succ, i64_w, i32_w]
                      rfl
                    refine pure_ (i := 9) (N := some 20) (v := ?_) (a' := ?_) #[true, false, true, true, true, true, true, true, true, true, false, false, false] rfl rfl (any_of HT_.out (by kernel_rfl)) (fun _ _ _ h => h) (Or.inl ⟨by rfl, ?_⟩) ?_ ?_
                    rotate_left
                    · intro w'
                      go_simp
                      with_reducible rfl
                    rotate_left
                    · simp only [Act.put, List.setIfInBounds_toArray, List.set_cons_zero, List.set_cons_succ, i64_w, i32_w]
                      rfl
                    refine one_ (i := 1) (N := some 12) #[true, true, true, true, true, true, true, true, true, true, false, false, false] rfl rfl (one_of HT_.out (by kernel_rfl)) (by decide) (fun K hK => ?_)
                    refine goes_ Try.func34 (by kernel_rfl) rfl #[.slice A0 l0.length c0, .int .i64 40] (by rfl) rfl rfl (by (try simp only [List.map_toArray, List.map_cons, List.map_nil]); first | done | rfl | (simp only [List.length_drop, List.length_take]; rfl)) ?_
                    with_reducible refine (zigguratref01_Made.calls k _ _ l0 40 t372 _ ?side1 ?side2 A4.out).mono ?_
                    (case side1 => repeat (first | exact (Kd.C_below HR0.out HB.out) | (with_reducible refine Kd.C_alloc ?_ _) | (with_reducible refine Kd.C_drewN ?_ _) | (with_reducible refine Kd.C_drew ?_)))
                    (case side2 => exact HC0.out)
                    rintro e w34 ⟨v373, rfl, ho0, hb⟩
                    refine ⟨_, rfl, ?_⟩
                    have n0_ := Aside0.mk (Kd.R_lower ho0 (below_size (by repeat (first | (with_reducible first | exact HB.out | apply below_alloc | apply pw_below_drewN | apply below_drew1) | exact HB.out))))
                    have n1_ := Aside0.mk (below_step (by repeat (first | (with_reducible first | exact HB.out | apply below_alloc | apply pw_below_drewN | apply below_drew1) | exact HB.out)) hb)
                    clear HB
                    have HO374 := n0_
                    have HB := n1_
                    clear n0_ n1_
                    (try clear hb)
                    (try clear hb2)
                    (try clear hk)
                    (try clear hi)
                    (try clear ho0)
                    refine hK.out _ _ ⟨((HB.out.cell (World.block_lt_of_cell? w _ hw375_0)).trans hw375_0), ((HB.out.cell (World.block_lt_of_cell? w _ hw376_0)).trans hw376_0)⟩ (fun hHeld => ?_)
                    clear hK K
                    refine norm_ (a' := ?_) ?_ ?_
                    rotate_left
                    · show Act.put _ (some 12) _ = _
                      simp only [Act.put, List.setIfInBounds_toArray, List.set_cons_zero, List.set_cons_succ, i64_w, i32_w]
                      rfl
                    refine pure_ (i := 10) (N := some 6) (v := ?_) (a' := ?_) #[true, true, true, true, true, true, true, true, true, true, true, false, false] rfl rfl (any_of HT_.out (by kernel_rfl)) (fun _ _ _ h => h) (Or.inl ⟨by rfl, ?_⟩) ?_ ?_
                    rotate_left
                    · intro w'
                      go_simp
                      with_reducible rfl
                    rotate_left
                    · simp only [Act.put, List.setIfInBounds_toArray, List.set_cons_zero, List.set_cons_succ, i64_w, i32_w]
                      rfl
                    refine pure_ (i := 11) (N := some 7) (v := ?_) (a' := ?_) #[true, true, true, true, true, true, true, true, true, true, true, true, false] rfl rfl (any_of HT_.out (by kernel_rfl)) (fun _ _ _ h => h) (Or.inl ⟨by rfl, ?_⟩) ?_ ?_
                    rotate_left
                    · intro w'
                      go_simp
                      with_reducible rfl
                    rotate_left
                    · simp only [Act.put, List.setIfInBounds_toArray, List.set_cons_zero, List.set_cons_succ, i64_w, i32_w]
                      rfl
                    refine pure_ (i := 12) (N := some 8) (v := ?_) (a' := ?_) #[true, true, true, true, true, true, true, true, true, true, true, true, true] rfl rfl (any_of HT_.out (by kernel_rfl)) (fun _ _ _ h => h) (Or.inl ⟨by rfl, ?_⟩) ?_ ?_
                    rotate_left
                    · intro w'
                      go_simp
                      with_reducible rfl
                    rotate_left
                    · simp only [Act.put, List.setIfInBounds_toArray, List.set_cons_zero, List.set_cons_succ, i64_w, i32_w]
                      rfl
                    refine done_ (done_of HT_.out (by kernel_rfl)) ?_
                    obtain ⟨Ao35, co35, eo35⟩ := Kd.R_slice HO374.out
                    subst eo35
                    try go_wp2_with (first | ((with_reducible refine gate_callee (f := 30) rfl ?_); refine goesL_ (some 23) rfl rfl Try.func30 (by kernel_rfl) rfl #[.slice Ao35 t372.length co35, .int .i64 (Int.tmod (wrap64 (rd l1 0)) 501)] rfl (by (try simp only [List.map_toArray, List.map_cons, List.map_nil]); first | done | rfl | (simp only [List.length_drop, List.length_take]; rfl)) ?_; (with_reducible refine (nat_Shl.calls k _ _ t372 (Int.tmod (wrap64 (rd l1 0)) 501) t377 _ ?side1 ?side2 A7.out).mono ?_); (case side1 => repeat (first | exact (Kd.R_reads' HO374.out).2.2 | (with_reducible refine Kd.C_alloc ?_ _) | (with_reducible refine Kd.C_drewN ?_ _) | (with_reducible refine Kd.C_drew ?_))); (case side2 => exact (Kd.R_reads' HO374.out).2.1); rintro e w36 ⟨v378, rfl, ho0, hb⟩; refine ⟨_, rfl, ?_⟩; have n0_ := Aside0.mk (Kd.R_elder' (by (with_reducible repeat (first | apply Kd.R_alloc | apply Kd.R_drewN | apply Kd.R_drew)); exact HO374.out) (Kd.R_base ho0) hb); have n1_ := Aside0.mk (Kd.R_lower (Kd.R_new' ho0 (Kd.R_lt (by (with_reducible repeat (first | apply Kd.R_alloc | apply Kd.R_drewN | apply Kd.R_drew)); exact HO374.out))) (below_size (by repeat (first | (with_reducible first | exact HB.out | apply below_alloc | apply pw_below_drewN | apply below_drew1) | exact HB.out)))); have n2_ := Aside0.mk (below_step (by repeat (first | (with_reducible first | exact HB.out | apply below_alloc | apply pw_below_drewN | apply below_drew1) | exact HB.out)) hb); clear HO374; clear HB; have HO374 := n0_; have HO379 := n1_; have HB := n2_; clear n0_ n1_ n2_; (try clear hb); (try clear hb2); (try clear hk); (try clear hi); (try clear ho0); obtain ⟨Ao37, co37, eo37⟩ := Kd.R_slice HO379.out; subst eo37) | ((with_reducible refine gate_callee (f := 32) rfl ?_); refine goesL_ (some 26) rfl rfl Try.func32 (by kernel_rfl) rfl #[.slice Ao37 t377.length co37, .int .i64 (Int.tmod (wrap64 (rd l1 0)) 501)] rfl (by (try simp only [List.map_toArray, List.map_cons, List.map_nil]); first | done | rfl | (simp only [List.length_drop, List.length_take]; rfl)) ?_; (with_reducible refine (nat_Shr.calls k _ _ t377 (Int.tmod (wrap64 (rd l1 0)) 501) t380 _ ?side1 ?side2 A8.out).mono ?_); (case side1 => repeat (first | exact (Kd.R_reads' HO379.out).2.2 | (with_reducible refine Kd.C_alloc ?_ _) | (with_reducible refine Kd.C_drewN ?_ _) | (with_reducible refine Kd.C_drew ?_))); (case side2 => exact (Kd.R_reads' HO379.out).2.1); rintro e w38 ⟨v381, rfl, ho0, hb⟩; refine ⟨_, rfl, ?_⟩; have n0_ := Aside0.mk (Kd.R_elder' (by (with_reducible repeat (first | apply Kd.R_alloc | apply Kd.R_drewN | apply Kd.R_drew)); exact HO374.out) (Kd.R_base ho0) hb); have n1_ := Aside0.mk (Kd.R_elder' (by (with_reducible repeat (first | apply Kd.R_alloc | apply Kd.R_drewN | apply Kd.R_drew)); exact HO379.out) (Kd.R_base ho0) hb); have n2_ := Aside0.mk (Kd.R_lower (Kd.R_new' (Kd.R_new' ho0 (Kd.R_lt (by (with_reducible repeat (first | apply Kd.R_alloc | apply Kd.R_drewN | apply Kd.R_drew)); exact HO374.out))) (Kd.R_lt (by (with_reducible repeat (first | apply Kd.R_alloc | apply Kd.R_drewN | apply Kd.R_drew)); exact HO379.out))) (below_size (by repeat (first | (with_reducible first | exact HB.out | apply below_alloc | apply pw_below_drewN | apply below_drew1) | exact HB.out)))); have n3_ := Aside0.mk (below_step (by repeat (first | (with_reducible first | exact HB.out | apply below_alloc | apply pw_below_drewN | apply below_drew1) | exact HB.out)) hb); clear HO374; clear HO379; clear HB; have HO374 := n0_; have HO379 := n1_; have HO382 := n2_; have HB := n3_; clear n0_ n1_ n2_ n3_; (try clear hb); (try clear hb2); (try clear hk); (try clear hi); (try clear ho0); obtain ⟨Ao39, co39, eo39⟩ := Kd.R_slice HO382.out; subst eo39) | ((with_reducible refine gate_callee (f := 15) rfl ?_); refine goesL_ (some 28) rfl rfl Try.func15 (by kernel_rfl) rfl #[.slice Ao39 t380.length co39, .slice Ao35 t372.length co35] rfl (by (try simp only [List.map_toArray, List.map_cons, List.map_nil]); first | done | rfl | (simp only [List.length_drop, List.length_take]; rfl)) ?_; (with_reducible refine (zigguratref01_Same.calls k _ _ t380 _ _ t372 true _ ?side1 ?side2 ?side3 ?side4 A9.out).mono ?_); (case side1 => repeat (first | exact (Kd.R_reads' HO382.out).2.2 | (with_reducible refine Kd.C_alloc ?_ _) | (with_reducible refine Kd.C_drewN ?_ _) | (with_reducible refine Kd.C_drew ?_))); (case side2 => exact (Kd.R_reads' HO382.out).2.1); (case side3 => repeat (first | exact (Kd.R_reads' HO374.out).2.2 | (with_reducible refine Kd.C_alloc ?_ _) | (with_reducible refine Kd.C_drewN ?_ _) | (with_reducible refine Kd.C_drew ?_))); (case side4 => exact (Kd.R_reads' HO374.out).2.1); rintro e w' ⟨rfl, ⟨nd, rfl⟩⟩; refine ⟨_, rfl, ?_⟩) | (go_at_call 30; (with_reducible refine (nat_Shl.calls k _ _ t377 (Int.tmod (wrap64 (rd l1 1)) 501) t384 _ ?side1 ?side2 A11.out).mono ?_); (case side1 => repeat (first | exact (Kd.R_reads' HO379.out).2.2 | (with_reducible refine Kd.C_alloc ?_ _) | (with_reducible refine Kd.C_drewN ?_ _) | (with_reducible refine Kd.C_drew ?_))); (case side2 => exact (Kd.R_reads' HO379.out).2.1); rintro e w40 ⟨v385, rfl, ho0, hb⟩; have n0_ := Aside0.mk (Kd.R_elder' (by (with_reducible repeat (first | apply Kd.R_alloc | apply Kd.R_drewN | apply Kd.R_drew)); exact HO374.out) (Kd.R_base ho0) hb); have n1_ := Aside0.mk (Kd.R_elder' (by (with_reducible repeat (first | apply Kd.R_alloc | apply Kd.R_drewN | apply Kd.R_drew)); exact HO379.out) (Kd.R_base ho0) hb); have n2_ := Aside0.mk (Kd.R_elder' (by (with_reducible repeat (first | apply Kd.R_alloc | apply Kd.R_drewN | apply Kd.R_drew)); exact HO382.out) (Kd.R_base ho0) hb); have n3_ := Aside0.mk (Kd.R_lower (Kd.R_new' (Kd.R_new' (Kd.R_new' ho0 (Kd.R_lt (by (with_reducible repeat (first | apply Kd.R_alloc | apply Kd.R_drewN | apply Kd.R_drew)); exact HO374.out))) (Kd.R_lt (by (with_reducible repeat (first | apply Kd.R_alloc | apply Kd.R_drewN | apply Kd.R_drew)); exact HO379.out))) (Kd.R_lt (by (with_reducible repeat (first | apply Kd.R_alloc | apply Kd.R_drewN | apply Kd.R_drew)); exact HO382.out))) (below_size (by repeat (first | (with_reducible first | exact HB.out | apply below_alloc | apply pw_below_drewN | apply below_drew1) | exact HB.out)))); have n4_ := Aside0.mk (below_step (by repeat (first | (with_reducible first | exact HB.out | apply below_alloc | apply pw_below_drewN | apply below_drew1) | exact HB.out)) hb); clear HO374; clear HO379; clear HO382; clear HB; have HO374 := n0_; have HO379 := n1_; have HO382 := n2_; have HO386 := n3_; have HB := n4_; clear n0_ n1_ n2_ n3_ n4_; (try clear hb); (try clear hb2); (try clear hk); (try clear hi); (try clear ho0)) | (go_at_call 30; (with_reducible refine (nat_Shl.calls k _ _ t372 (wrap64 ((Int.tmod (wrap64 (rd l1 0)) 501) + (Int.tmod (wrap64 (rd l1 1)) 501))) t387 _ ?side1 ?side2 A12.out).mono ?_); (case side1 => repeat (first | exact (Kd.R_reads' HO374.out).2.2 | (with_reducible refine Kd.C_alloc ?_ _) | (with_reducible refine Kd.C_drewN ?_ _) | (with_reducible refine Kd.C_drew ?_))); (case side2 => exact (Kd.R_reads' HO374.out).2.1); rintro e w41 ⟨v388, rfl, ho0, hb⟩; have n0_ := Aside0.mk (Kd.R_elder' (by (with_reducible repeat (first | apply Kd.R_alloc | apply Kd.R_drewN | apply Kd.R_drew)); exact HO374.out) (Kd.R_base ho0) hb); have n1_ := Aside0.mk (Kd.R_elder' (by (with_reducible repeat (first | apply Kd.R_alloc | apply Kd.R_drewN | apply Kd.R_drew)); exact HO379.out) (Kd.R_base ho0) hb); have n2_ := Aside0.mk (Kd.R_elder' (by (with_reducible repeat (first | apply Kd.R_alloc | apply Kd.R_drewN | apply Kd.R_drew)); exact HO382.out) (Kd.R_base ho0) hb); have n3_ := Aside0.mk (Kd.R_elder' (by (with_reducible repeat (first | apply Kd.R_alloc | apply Kd.R_drewN | apply Kd.R_drew)); exact HO386.out) (Kd.R_base ho0) hb); have n4_ := Aside0.mk (Kd.R_lower (Kd.R_new' (Kd.R_new' (Kd.R_new' (Kd.R_new' ho0 (Kd.R_lt (by (with_reducible repeat (first | apply Kd.R_alloc | apply Kd.R_drewN | apply Kd.R_drew)); exact HO374.out))) (Kd.R_lt (by (with_reducible repeat (first | apply Kd.R_alloc | apply Kd.R_drewN | apply Kd.R_drew)); exact HO379.out))) (Kd.R_lt (by (with_reducible repeat (first | apply Kd.R_alloc | apply Kd.R_drewN | apply Kd.R_drew)); exact HO382.out))) (Kd.R_lt (by (with_reducible repeat (first | apply Kd.R_alloc | apply Kd.R_drewN | apply Kd.R_drew)); exact HO386.out))) (below_size (by repeat (first | (with_reducible first | exact HB.out | apply below_alloc | apply pw_below_drewN | apply below_drew1) | exact HB.out)))); have n5_ := Aside0.mk (below_step (by repeat (first | (with_reducible first | exact HB.out | apply below_alloc | apply pw_below_drewN | apply below_drew1) | exact HB.out)) hb); clear HO374; clear HO379; clear HO382; clear HO386; clear HB; have HO374 := n0_; have HO379 := n1_; have HO382 := n2_; have HO386 := n3_; have HO389 := n4_; have HB := n5_; clear n0_ n1_ n2_ n3_ n4_ n5_; (try clear hb); (try clear hb2); (try clear hk); (try clear hi); (try clear ho0); obtain ⟨Ao42, co42, eo42⟩ := Kd.R_slice HO386.out; subst eo42; obtain ⟨Ao43, co43, eo43⟩ := Kd.R_slice HO389.out; subst eo43) | (go_at_call 15; (with_reducible refine (zigguratref01_Same.calls k _ _ t384 _ _ t387 true _ ?side1 ?side2 ?side3 ?side4 A13.out).mono ?_); (case side1 => repeat (first | exact (Kd.R_reads' HO386.out).2.2 | (with_reducible refine Kd.C_alloc ?_ _) | (with_reducible refine Kd.C_drewN ?_ _) | (with_reducible refine Kd.C_drew ?_))); (case side2 => exact (Kd.R_reads' HO386.out).2.1); (case side3 => repeat (first | exact (Kd.R_reads' HO389.out).2.2 | (with_reducible refine Kd.C_alloc ?_ _) | (with_reducible refine Kd.C_drewN ?_ _) | (with_reducible refine Kd.C_drew ?_))); (case side4 => exact (Kd.R_reads' HO389.out).2.1); rintro e w' ⟨rfl, ⟨nd, rfl⟩⟩) | (go_at_call 32; (with_reducible refine (nat_Shr.calls k _ _ t372 (Int.tmod (wrap64 (rd l1 0)) 501) t391 _ ?side1 ?side2 A15.out).mono ?_); (case side1 => repeat (first | exact (Kd.R_reads' HO374.out).2.2 | (with_reducible refine Kd.C_alloc ?_ _) | (with_reducible refine Kd.C_drewN ?_ _) | (with_reducible refine Kd.C_drew ?_))); (case side2 => exact (Kd.R_reads' HO374.out).2.1); rintro e w44 ⟨v392, rfl, ho0, hb⟩; have n0_ := Aside0.mk (Kd.R_elder' (by (with_reducible repeat (first | apply Kd.R_alloc | apply Kd.R_drewN | apply Kd.R_drew)); exact HO374.out) (Kd.R_base ho0) hb); have n1_ := Aside0.mk (Kd.R_elder' (by (with_reducible repeat (first | apply Kd.R_alloc | apply Kd.R_drewN | apply Kd.R_drew)); exact HO379.out) (Kd.R_base ho0) hb); have n2_ := Aside0.mk (Kd.R_elder' (by (with_reducible repeat (first | apply Kd.R_alloc | apply Kd.R_drewN | apply Kd.R_drew)); exact HO382.out) (Kd.R_base ho0) hb); have n3_ := Aside0.mk (Kd.R_elder' (by (with_reducible repeat (first | apply Kd.R_alloc | apply Kd.R_drewN | apply Kd.R_drew)); exact HO386.out) (Kd.R_base ho0) hb); have n4_ := Aside0.mk (Kd.R_elder' (by (with_reducible repeat (first | apply Kd.R_alloc | apply Kd.R_drewN | apply Kd.R_drew)); exact HO389.out) (Kd.R_base ho0) hb); have n5_ := Aside0.mk (Kd.R_lower (Kd.R_new' (Kd.R_new' (Kd.R_new' (Kd.R_new' (Kd.R_new' ho0 (Kd.R_lt (by (with_reducible repeat (first | apply Kd.R_alloc | apply Kd.R_drewN | apply Kd.R_drew)); exact HO374.out))) (Kd.R_lt (by (with_reducible repeat (first | apply Kd.R_alloc | apply Kd.R_drewN | apply Kd.R_drew)); exact HO379.out))) (Kd.R_lt (by (with_reducible repeat (first | apply Kd.R_alloc | apply Kd.R_drewN | apply Kd.R_drew)); exact HO382.out))) (Kd.R_lt (by (with_reducible repeat (first | apply Kd.R_alloc | apply Kd.R_drewN | apply Kd.R_drew)); exact HO386.out))) (Kd.R_lt (by (with_reducible repeat (first | apply Kd.R_alloc | apply Kd.R_drewN | apply Kd.R_drew)); exact HO389.out))) (below_size (by repeat (first | (with_reducible first | exact HB.out | apply below_alloc | apply pw_below_drewN | apply below_drew1) | exact HB.out)))); have n6_ := Aside0.mk (below_step (by repeat (first | (with_reducible first | exact HB.out | apply below_alloc | apply pw_below_drewN | apply below_drew1) | exact HB.out)) hb); clear HO374; clear HO379; clear HO382; clear HO386; clear HO389; clear HB; have HO374 := n0_; have HO379 := n1_; have HO382 := n2_; have HO386 := n3_; have HO389 := n4_; have HO393 := n5_; have HB := n6_; clear n0_ n1_ n2_ n3_ n4_ n5_ n6_; (try clear hb); (try clear hb2); (try clear hk); (try clear hi); (try clear ho0); obtain ⟨Ao45, co45, eo45⟩ := Kd.R_slice HO393.out; subst eo45) | (go_at_call 32; (with_reducible refine (nat_Shr.calls k _ _ t391 (Int.tmod (wrap64 (rd l1 1)) 501) t394 _ ?side1 ?side2 A16.out).mono ?_); (case side1 => repeat (first | exact (Kd.R_reads' HO393.out).2.2 | (with_reducible refine Kd.C_alloc ?_ _) | (with_reducible refine Kd.C_drewN ?_ _) | (with_reducible refine Kd.C_drew ?_))); (case side2 => exact (Kd.R_reads' HO393.out).2.1); rintro e w46 ⟨v395, rfl, ho0, hb⟩; have n0_ := Aside0.mk (Kd.R_elder' (by (with_reducible repeat (first | apply Kd.R_alloc | apply Kd.R_drewN | apply Kd.R_drew)); exact HO374.out) (Kd.R_base ho0) hb); have n1_ := Aside0.mk (Kd.R_elder' (by (with_reducible repeat (first | apply Kd.R_alloc | apply Kd.R_drewN | apply Kd.R_drew)); exact HO379.out) (Kd.R_base ho0) hb); have n2_ := Aside0.mk (Kd.R_elder' (by (with_reducible repeat (first | apply Kd.R_alloc | apply Kd.R_drewN | apply Kd.R_drew)); exact HO382.out) (Kd.R_base ho0) hb); have n3_ := Aside0.mk (Kd.R_elder' (by (with_reducible repeat (first | apply Kd.R_alloc | apply Kd.R_drewN | apply Kd.R_drew)); exact HO386.out) (Kd.R_base ho0) hb); have n4_ := Aside0.mk (Kd.R_elder' (by (with_reducible repeat (first | apply Kd.R_alloc | apply Kd.R_drewN | apply Kd.R_drew)); exact HO389.out) (Kd.R_base ho0) hb); have n5_ := Aside0.mk (Kd.R_elder' (by (with_reducible repeat (first | apply Kd.R_alloc | apply Kd.R_drewN | apply Kd.R_drew)); exact HO393.out) (Kd.R_base ho0) hb); have n6_ := Aside0.mk (Kd.R_lower (Kd.R_new' (Kd.R_new' (Kd.R_new' (Kd.R_new' (Kd.R_new' (Kd.R_new' ho0 (Kd.R_lt (by (with_reducible repeat (first | apply Kd.R_alloc | apply Kd.R_drewN | apply Kd.R_drew)); exact HO374.out))) (Kd.R_lt (by (with_reducible repeat (first | apply Kd.R_alloc | apply Kd.R_drewN | apply Kd.R_drew)); exact HO379.out))) (Kd.R_lt (by (with_reducible repeat (first | apply Kd.R_alloc | apply Kd.R_drewN | apply Kd.R_drew)); exact HO382.out))) (Kd.R_lt (by (with_reducible repeat (first | apply Kd.R_alloc | apply Kd.R_drewN | apply Kd.R_drew)); exact HO386.out))) (Kd.R_lt (by (with_reducible repeat (first | apply Kd.R_alloc | apply Kd.R_drewN | apply Kd.R_drew)); exact HO389.out))) (Kd.R_lt (by (with_reducible repeat (first | apply Kd.R_alloc | apply Kd.R_drewN | apply Kd.R_drew)); exact HO393.out))) (below_size (by repeat (first | (with_reducible first | exact HB.out | apply below_alloc | apply pw_below_drewN | apply below_drew1) | exact HB.out)))); have n7_ := Aside0.mk (below_step (by repeat (first | (with_reducible first | exact HB.out | apply below_alloc | apply pw_below_drewN | apply below_drew1) | exact HB.out)) hb); clear HO374; clear HO379; clear HO382; clear HO386; clear HO389; clear HO393; clear HB; have HO374 := n0_; have HO379 := n1_; have HO382 := n2_; have HO386 := n3_; have HO389 := n4_; have HO393 := n5_; have HO396 := n6_; have HB := n7_; clear n0_ n1_ n2_ n3_ n4_ n5_ n6_ n7_; (try clear hb); (try clear hb2); (try clear hk); (try clear hi); (try clear ho0)) | (go_at_call 32; (with_reducible refine (nat_Shr.calls k _ _ t372 (wrap64 ((Int.tmod (wrap64 (rd l1 0)) 501) + (Int.tmod (wrap64 (rd l1 1)) 501))) t397 _ ?side1 ?side2 A17.out).mono ?_); (case side1 => repeat (first | exact (Kd.R_reads' HO374.out).2.2 | (with_reducible refine Kd.C_alloc ?_ _) | (with_reducible refine Kd.C_drewN ?_ _) | (with_reducible refine Kd.C_drew ?_))); (case side2 => exact (Kd.R_reads' HO374.out).2.1); rintro e w47 ⟨v398, rfl, ho0, hb⟩; have n0_ := Aside0.mk (Kd.R_elder' (by (with_reducible repeat (first | apply Kd.R_alloc | apply Kd.R_drewN | apply Kd.R_drew)); exact HO374.out) (Kd.R_base ho0) hb); have n1_ := Aside0.mk (Kd.R_elder' (by (with_reducible repeat (first | apply Kd.R_alloc | apply Kd.R_drewN | apply Kd.R_drew)); exact HO379.out) (Kd.R_base ho0) hb); have n2_ := Aside0.mk (Kd.R_elder' (by (with_reducible repeat (first | apply Kd.R_alloc | apply Kd.R_drewN | apply Kd.R_drew)); exact HO382.out) (Kd.R_base ho0) hb); have n3_ := Aside0.mk (Kd.R_elder' (by (with_reducible repeat (first | apply Kd.R_alloc | apply Kd.R_drewN | apply Kd.R_drew)); exact HO386.out) (Kd.R_base ho0) hb); have n4_ := Aside0.mk (Kd.R_elder' (by (with_reducible repeat (first | apply Kd.R_alloc | apply Kd.R_drewN | apply Kd.R_drew)); exact HO389.out) (Kd.R_base ho0) hb); have n5_ := Aside0.mk (Kd.R_elder' (by (with_reducible repeat (first | apply Kd.R_alloc | apply Kd.R_drewN | apply Kd.R_drew)); exact HO393.out) (Kd.R_base ho0) hb); have n6_ := Aside0.mk (Kd.R_elder' (by (with_reducible repeat (first | apply Kd.R_alloc | apply Kd.R_drewN | apply Kd.R_drew)); exact HO396.out) (Kd.R_base ho0) hb); have n7_ := Aside0.mk (Kd.R_lower (Kd.R_new' (Kd.R_new' (Kd.R_new' (Kd.R_new' (Kd.R_new' (Kd.R_new' (Kd.R_new' ho0 (Kd.R_lt (by (with_reducible repeat (first | apply Kd.R_alloc | apply Kd.R_drewN | apply Kd.R_drew)); exact HO374.out))) (Kd.R_lt (by (with_reducible repeat (first | apply Kd.R_alloc | apply Kd.R_drewN | apply Kd.R_drew)); exact HO379.out))) (Kd.R_lt (by (with_reducible repeat (first | apply Kd.R_alloc | apply Kd.R_drewN | apply Kd.R_drew)); exact HO382.out))) (Kd.R_lt (by (with_reducible repeat (first | apply Kd.R_alloc | apply Kd.R_drewN | apply Kd.R_drew)); exact HO386.out))) (Kd.R_lt (by (with_reducible repeat (first | apply Kd.R_alloc | apply Kd.R_drewN | apply Kd.R_drew)); exact HO389.out))) (Kd.R_lt (by (with_reducible repeat (first | apply Kd.R_alloc | apply Kd.R_drewN | apply Kd.R_drew)); exact HO393.out))) (Kd.R_lt (by (with_reducible repeat (first | apply Kd.R_alloc | apply Kd.R_drewN | apply Kd.R_drew)); exact HO396.out))) (below_size (by repeat (first | (with_reducible first | exact HB.out | apply below_alloc | apply pw_below_drewN | apply below_drew1) | exact HB.out)))); have n8_ := Aside0.mk (below_step (by repeat (first | (with_reducible first | exact HB.out | apply below_alloc | apply pw_below_drewN | apply below_drew1) | exact HB.out)) hb); clear HO374; clear HO379; clear HO382; clear HO386; clear HO389; clear HO393; clear HO396; clear HB; have HO374 := n0_; have HO379 := n1_; have HO382 := n2_; have HO386 := n3_; have HO389 := n4_; have HO393 := n5_; have HO396 := n6_; have HO399 := n7_; have HB := n8_; clear n0_ n1_ n2_ n3_ n4_ n5_ n6_ n7_ n8_; (try clear hb); (try clear hb2); (try clear hk); (try clear hi); (try clear ho0); obtain ⟨Ao48, co48, eo48⟩ := Kd.R_slice HO396.out; subst eo48; obtain ⟨Ao49, co49, eo49⟩ := Kd.R_slice HO399.out; subst eo49) | (go_at_call 15; (with_reducible refine (zigguratref01_Same.calls k _ _ t394 _ _ t397 true _ ?side1 ?side2 ?side3 ?side4 A18.out).mono ?_); (case side1 => repeat (first | exact (Kd.R_reads' HO396.out).2.2 | (with_reducible refine Kd.C_alloc ?_ _) | (with_reducible refine Kd.C_drewN ?_ _) | (with_reducible refine Kd.C_drew ?_))); (case side2 => exact (Kd.R_reads' HO396.out).2.1); (case side3 => repeat (first | exact (Kd.R_reads' HO399.out).2.2 | (with_reducible refine Kd.C_alloc ?_ _) | (with_reducible refine Kd.C_drewN ?_ _) | (with_reducible refine Kd.C_drew ?_))); (case side4 => exact (Kd.R_reads' HO399.out).2.1); rintro e w' ⟨rfl, ⟨nd, rfl⟩⟩) | (go_at_call 30; (with_reducible refine (nat_Shl.calls k _ _ t372 1 t401 _ ?side1 ?side2 A20.out).mono ?_); (case side1 => repeat (first | exact (Kd.R_reads' HO374.out).2.2 | (with_reducible refine Kd.C_alloc ?_ _) | (with_reducible refine Kd.C_drewN ?_ _) | (with_reducible refine Kd.C_drew ?_))); (case side2 => exact (Kd.R_reads' HO374.out).2.1); rintro e w50 ⟨v402, rfl, ho0, hb⟩; have n0_ := Aside0.mk (Kd.R_elder' (by (with_reducible repeat (first | apply Kd.R_alloc | apply Kd.R_drewN | apply Kd.R_drew)); exact HO374.out) (Kd.R_base ho0) hb); have n1_ := Aside0.mk (Kd.R_elder' (by (with_reducible repeat (first | apply Kd.R_alloc | apply Kd.R_drewN | apply Kd.R_drew)); exact HO379.out) (Kd.R_base ho0) hb); have n2_ := Aside0.mk (Kd.R_elder' (by (with_reducible repeat (first | apply Kd.R_alloc | apply Kd.R_drewN | apply Kd.R_drew)); exact HO382.out) (Kd.R_base ho0) hb); have n3_ := Aside0.mk (Kd.R_elder' (by (with_reducible repeat (first | apply Kd.R_alloc | apply Kd.R_drewN | apply Kd.R_drew)); exact HO386.out) (Kd.R_base ho0) hb); have n4_ := Aside0.mk (Kd.R_elder' (by (with_reducible repeat (first | apply Kd.R_alloc | apply Kd.R_drewN | apply Kd.R_drew)); exact HO389.out) (Kd.R_base ho0) hb); have n5_ := Aside0.mk (Kd.R_elder' (by (with_reducible repeat (first | apply Kd.R_alloc | apply Kd.R_drewN | apply Kd.R_drew)); exact HO393.out) (Kd.R_base ho0) hb); have n6_ := Aside0.mk (Kd.R_elder' (by (with_reducible repeat (first | apply Kd.R_alloc | apply Kd.R_drewN | apply Kd.R_drew)); exact HO396.out) (Kd.R_base ho0) hb); have n7_ := Aside0.mk (Kd.R_elder' (by (with_reducible repeat (first | apply Kd.R_alloc | apply Kd.R_drewN | apply Kd.R_drew)); exact HO399.out) (Kd.R_base ho0) hb); have n8_ := Aside0.mk (Kd.R_lower (Kd.R_new' (Kd.R_new' (Kd.R_new' (Kd.R_new' (Kd.R_new' (Kd.R_new' (Kd.R_new' (Kd.R_new' ho0 (Kd.R_lt (by (with_reducible repeat (first | apply Kd.R_alloc | apply Kd.R_drewN | apply Kd.R_drew)); exact HO374.out))) (Kd.R_lt (by (with_reducible repeat (first | apply Kd.R_alloc | apply Kd.R_drewN | apply Kd.R_drew)); exact HO379.out))) (Kd.R_lt (by (with_reducible repeat (first | apply Kd.R_alloc | apply Kd.R_drewN | apply Kd.R_drew)); exact HO382.out))) (Kd.R_lt (by (with_reducible repeat (first | apply Kd.R_alloc | apply Kd.R_drewN | apply Kd.R_drew)); exact HO386.out))) (Kd.R_lt (by (with_reducible repeat (first | apply Kd.R_alloc | apply Kd.R_drewN | apply Kd.R_drew)); exact HO389.out))) (Kd.R_lt (by (with_reducible repeat (first | apply Kd.R_alloc | apply Kd.R_drewN | apply Kd.R_drew)); exact HO393.out))) (Kd.R_lt (by (with_reducible repeat (first | apply Kd.R_alloc | apply Kd.R_drewN | apply Kd.R_drew)); exact HO396.out))) (Kd.R_lt (by (with_reducible repeat (first | apply Kd.R_alloc | apply Kd.R_drewN | apply Kd.R_drew)); exact HO399.out))) (below_size (by repeat (first | (with_reducible first | exact HB.out | apply below_alloc | apply pw_below_drewN | apply below_drew1) | exact HB.out)))); have n9_ := Aside0.mk (below_step (by repeat (first | (with_reducible first | exact HB.out | apply below_alloc | apply pw_below_drewN | apply below_drew1) | exact HB.out)) hb); clear HO374; clear HO379; clear HO382; clear HO386; clear HO389; clear HO393; clear HO396; clear HO399; clear HB; have HO374 := n0_; have HO379 := n1_; have HO382 := n2_; have HO386 := n3_; have HO389 := n4_; have HO393 := n5_; have HO396 := n6_; have HO399 := n7_; have HO403 := n8_; have HB := n9_; clear n0_ n1_ n2_ n3_ n4_ n5_ n6_ n7_ n8_ n9_; (try clear hb); (try clear hb2); (try clear hk); (try clear hi); (try clear ho0)) | (go_at_call 22; (with_reducible refine (nat_Add.calls k _ _ t372 _ _ t372 t404 _ ?side1 ?side2 ?side3 ?side4 A21.out).mono ?_); (case side1 => repeat (first | exact (Kd.R_reads' HO374.out).2.2 | (with_reducible refine Kd.C_alloc ?_ _) | (with_reducible refine Kd.C_drewN ?_ _) | (with_reducible refine Kd.C_drew ?_))); (case side2 => exact (Kd.R_reads' HO374.out).2.1); (case side3 => repeat (first | exact (Kd.R_reads' HO374.out).2.2 | (with_reducible refine Kd.C_alloc ?_ _) | (with_reducible refine Kd.C_drewN ?_ _) | (with_reducible refine Kd.C_drew ?_))); (case side4 => exact (Kd.R_reads' HO374.out).2.1); rintro e w51 ⟨v405, rfl, ho0, hb⟩; have n0_ := Aside0.mk (Kd.R_elder' (by (with_reducible repeat (first | apply Kd.R_alloc | apply Kd.R_drewN | apply Kd.R_drew)); exact HO374.out) (Kd.R_base ho0) hb); have n1_ := Aside0.mk (Kd.R_elder' (by (with_reducible repeat (first | apply Kd.R_alloc | apply Kd.R_drewN | apply Kd.R_drew)); exact HO379.out) (Kd.R_base ho0) hb); have n2_ := Aside0.mk (Kd.R_elder' (by (with_reducible repeat (first | apply Kd.R_alloc | apply Kd.R_drewN | apply Kd.R_drew)); exact HO382.out) (Kd.R_base ho0) hb); have n3_ := Aside0.mk (Kd.R_elder' (by (with_reducible repeat (first | apply Kd.R_alloc | apply Kd.R_drewN | apply Kd.R_drew)); exact HO386.out) (Kd.R_base ho0) hb); have n4_ := Aside0.mk (Kd.R_elder' (by (with_reducible repeat (first | apply Kd.R_alloc | apply Kd.R_drewN | apply Kd.R_drew)); exact HO389.out) (Kd.R_base ho0) hb); have n5_ := Aside0.mk (Kd.R_elder' (by (with_reducible repeat (first | apply Kd.R_alloc | apply Kd.R_drewN | apply Kd.R_drew)); exact HO393.out) (Kd.R_base ho0) hb); have n6_ := Aside0.mk (Kd.R_elder' (by (with_reducible repeat (first | apply Kd.R_alloc | apply Kd.R_drewN | apply Kd.R_drew)); exact HO396.out) (Kd.R_base ho0) hb); have n7_ := Aside0.mk (Kd.R_elder' (by (with_reducible repeat (first | apply Kd.R_alloc | apply Kd.R_drewN | apply Kd.R_drew)); exact HO399.out) (Kd.R_base ho0) hb); have n8_ := Aside0.mk (Kd.R_elder' (by (with_reducible repeat (first | apply Kd.R_alloc | apply Kd.R_drewN | apply Kd.R_drew)); exact HO403.out) (Kd.R_base ho0) hb); have n9_ := Aside0.mk (Kd.R_lower (Kd.R_new' (Kd.R_new' (Kd.R_new' (Kd.R_new' (Kd.R_new' (Kd.R_new' (Kd.R_new' (Kd.R_new' (Kd.R_new' ho0 (Kd.R_lt (by (with_reducible repeat (first | apply Kd.R_alloc | apply Kd.R_drewN | apply Kd.R_drew)); exact HO374.out))) (Kd.R_lt (by (with_reducible repeat (first | apply Kd.R_alloc | apply Kd.R_drewN | apply Kd.R_drew)); exact HO379.out))) (Kd.R_lt (by (with_reducible repeat (first | apply Kd.R_alloc | apply Kd.R_drewN | apply Kd.R_drew)); exact HO382.out))) (Kd.R_lt (by (with_reducible repeat (first | apply Kd.R_alloc | apply Kd.R_drewN | apply Kd.R_drew)); exact HO386.out))) (Kd.R_lt (by (with_reducible repeat (first | apply Kd.R_alloc | apply Kd.R_drewN | apply Kd.R_drew)); exact HO389.out))) (Kd.R_lt (by (with_reducible repeat (first | apply Kd.R_alloc | apply Kd.R_drewN | apply Kd.R_drew)); exact HO393.out))) (Kd.R_lt (by (with_reducible repeat (first | apply Kd.R_alloc | apply Kd.R_drewN | apply Kd.R_drew)); exact HO396.out))) (Kd.R_lt (by (with_reducible repeat (first | apply Kd.R_alloc | apply Kd.R_drewN | apply Kd.R_drew)); exact HO399.out))) (Kd.R_lt (by (with_reducible repeat (first | apply Kd.R_alloc | apply Kd.R_drewN | apply Kd.R_drew)); exact HO403.out))) (below_size (by repeat (first | (with_reducible first | exact HB.out | apply below_alloc | apply pw_below_drewN | apply below_drew1) | exact HB.out)))); have n10_ := Aside0.mk (below_step (by repeat (first | (with_reducible first | exact HB.out | apply below_alloc | apply pw_below_drewN | apply below_drew1) | exact HB.out)) hb); clear HO374; clear HO379; clear HO382; clear HO386; clear HO389; clear HO393; clear HO396; clear HO399; clear HO403; clear HB; have HO374 := n0_; have HO379 := n1_; have HO382 := n2_; have HO386 := n3_; have HO389 := n4_; have HO393 := n5_; have HO396 := n6_; have HO399 := n7_; have HO403 := n8_; have HO406 := n9_; have HB := n10_; clear n0_ n1_ n2_ n3_ n4_ n5_ n6_ n7_ n8_ n9_ n10_; (try clear hb); (try clear hb2); (try clear hk); (try clear hi); (try clear ho0); obtain ⟨Ao52, co52, eo52⟩ := Kd.R_slice HO403.out; subst eo52; obtain ⟨Ao53, co53, eo53⟩ := Kd.R_slice HO406.out; subst eo53) | (go_at_call 15; (with_reducible refine (zigguratref01_Same.calls k _ _ t401 _ _ t404 true _ ?side1 ?side2 ?side3 ?side4 A22.out).mono ?_); (case side1 => repeat (first | exact (Kd.R_reads' HO403.out).2.2 | (with_reducible refine Kd.C_alloc ?_ _) | (with_reducible refine Kd.C_drewN ?_ _) | (with_reducible refine Kd.C_drew ?_))); (case side2 => exact (Kd.R_reads' HO403.out).2.1); (case side3 => repeat (first | exact (Kd.R_reads' HO406.out).2.2 | (with_reducible refine Kd.C_alloc ?_ _) | (with_reducible refine Kd.C_drewN ?_ _) | (with_reducible refine Kd.C_drew ?_))); (case side4 => exact (Kd.R_reads' HO406.out).2.1); rintro e w' ⟨rfl, ⟨nd, rfl⟩⟩) | (go_at_call 30; (with_reducible refine (nat_Shl.calls k _ _ t372 0 t408 _ ?side1 ?side2 A24.out).mono ?_); (case side1 => repeat (first | exact (Kd.R_reads' HO374.out).2.2 | (with_reducible refine Kd.C_alloc ?_ _) | (with_reducible refine Kd.C_drewN ?_ _) | (with_reducible refine Kd.C_drew ?_))); (case side2 => exact (Kd.R_reads' HO374.out).2.1); rintro e w54 ⟨v409, rfl, ho0, hb⟩; have n0_ := Aside0.mk (Kd.R_elder' (by (with_reducible repeat (first | apply Kd.R_alloc | apply Kd.R_drewN | apply Kd.R_drew)); exact HO374.out) (Kd.R_base ho0) hb); have n1_ := Aside0.mk (Kd.R_elder' (by (with_reducible repeat (first | apply Kd.R_alloc | apply Kd.R_drewN | apply Kd.R_drew)); exact HO379.out) (Kd.R_base ho0) hb); have n2_ := Aside0.mk (Kd.R_elder' (by (with_reducible repeat (first | apply Kd.R_alloc | apply Kd.R_drewN | apply Kd.R_drew)); exact HO382.out) (Kd.R_base ho0) hb); have n3_ := Aside0.mk (Kd.R_elder' (by (with_reducible repeat (first | apply Kd.R_alloc | apply Kd.R_drewN | apply Kd.R_drew)); exact HO386.out) (Kd.R_base ho0) hb); have n4_ := Aside0.mk (Kd.R_elder' (by (with_reducible repeat (first | apply Kd.R_alloc | apply Kd.R_drewN | apply Kd.R_drew)); exact HO389.out) (Kd.R_base ho0) hb); have n5_ := Aside0.mk (Kd.R_elder' (by (with_reducible repeat (first | apply Kd.R_alloc | apply Kd.R_drewN | apply Kd.R_drew)); exact HO393.out) (Kd.R_base ho0) hb); have n6_ := Aside0.mk (Kd.R_elder' (by (with_reducible repeat (first | apply Kd.R_alloc | apply Kd.R_drewN | apply Kd.R_drew)); exact HO396.out) (Kd.R_base ho0) hb); have n7_ := Aside0.mk (Kd.R_elder' (by (with_reducible repeat (first | apply Kd.R_alloc | apply Kd.R_drewN | apply Kd.R_drew)); exact HO399.out) (Kd.R_base ho0) hb); have n8_ := Aside0.mk (Kd.R_elder' (by (with_reducible repeat (first | apply Kd.R_alloc | apply Kd.R_drewN | apply Kd.R_drew)); exact HO403.out) (Kd.R_base ho0) hb); have n9_ := Aside0.mk (Kd.R_elder' (by (with_reducible repeat (first | apply Kd.R_alloc | apply Kd.R_drewN | apply Kd.R_drew)); exact HO406.out) (Kd.R_base ho0) hb); have n10_ := Aside0.mk (Kd.R_lower (Kd.R_new' (Kd.R_new' (Kd.R_new' (Kd.R_new' (Kd.R_new' (Kd.R_new' (Kd.R_new' (Kd.R_new' (Kd.R_new' (Kd.R_new' ho0 (Kd.R_lt (by (with_reducible repeat (first | apply Kd.R_alloc | apply Kd.R_drewN | apply Kd.R_drew)); exact HO374.out))) (Kd.R_lt (by (with_reducible repeat (first | apply Kd.R_alloc | apply Kd.R_drewN | apply Kd.R_drew)); exact HO379.out))) (Kd.R_lt (by (with_reducible repeat (first | apply Kd.R_alloc | apply Kd.R_drewN | apply Kd.R_drew)); exact HO382.out))) (Kd.R_lt (by (with_reducible repeat (first | apply Kd.R_alloc | apply Kd.R_drewN | apply Kd.R_drew)); exact HO386.out))) (Kd.R_lt (by (with_reducible repeat (first | apply Kd.R_alloc | apply Kd.R_drewN | apply Kd.R_drew)); exact HO389.out))) (Kd.R_lt (by (with_reducible repeat (first | apply Kd.R_alloc | apply Kd.R_drewN | apply Kd.R_drew)); exact HO393.out))) (Kd.R_lt (by (with_reducible repeat (first | apply Kd.R_alloc | apply Kd.R_drewN | apply Kd.R_drew)); exact HO396.out))) (Kd.R_lt (by (with_reducible repeat (first | apply Kd.R_alloc | apply Kd.R_drewN | apply Kd.R_drew)); exact HO399.out))) (Kd.R_lt (by (with_reducible repeat (first | apply Kd.R_alloc | apply Kd.R_drewN | apply Kd.R_drew)); exact HO403.out))) (Kd.R_lt (by (with_reducible repeat (first | apply Kd.R_alloc | apply Kd.R_drewN | apply Kd.R_drew)); exact HO406.out))) (below_size (by repeat (first | (with_reducible first | exact HB.out | apply below_alloc | apply pw_below_drewN | apply below_drew1) | exact HB.out)))); have n11_ := Aside0.mk (below_step (by repeat (first | (with_reducible first | exact HB.out | apply below_alloc | apply pw_below_drewN | apply below_drew1) | exact HB.out)) hb); clear HO374; clear HO379; clear HO382; clear HO386; clear HO389; clear HO393; clear HO396; clear HO399; clear HO403; clear HO406; clear HB; have HO374 := n0_; have HO379 := n1_; have HO382 := n2_; have HO386 := n3_; have HO389 := n4_; have HO393 := n5_; have HO396 := n6_; have HO399 := n7_; have HO403 := n8_; have HO406 := n9_; have HO410 := n10_; have HB := n11_; clear n0_ n1_ n2_ n3_ n4_ n5_ n6_ n7_ n8_ n9_ n10_ n11_; (try clear hb); (try clear hb2); (try clear hk); (try clear hi); (try clear ho0); obtain ⟨Ao55, co55, eo55⟩ := Kd.R_slice HO410.out; subst eo55) | (go_at_call 15; (with_reducible refine (zigguratref01_Same.calls k _ _ t408 _ _ t372 true _ ?side1 ?side2 ?side3 ?side4 A25.out).mono ?_); (case side1 => repeat (first | exact (Kd.R_reads' HO410.out).2.2 | (with_reducible refine Kd.C_alloc ?_ _) | (with_reducible refine Kd.C_drewN ?_ _) | (with_reducible refine Kd.C_drew ?_))); (case side2 => exact (Kd.R_reads' HO410.out).2.1); (case side3 => repeat (first | exact (Kd.R_reads' HO374.out).2.2 | (with_reducible refine Kd.C_alloc ?_ _) | (with_reducible refine Kd.C_drewN ?_ _) | (with_reducible refine Kd.C_drew ?_))); (case side4 => exact (Kd.R_reads' HO374.out).2.1); rintro e w' ⟨rfl, ⟨nd, rfl⟩⟩) | (go_at_call 32; (with_reducible refine (nat_Shr.calls k _ _ t372 0 t412 _ ?side1 ?side2 A27.out).mono ?_); (case side1 => repeat (first | exact (Kd.R_reads' HO374.out).2.2 | (with_reducible refine Kd.C_alloc ?_ _) | (with_reducible refine Kd.C_drewN ?_ _) | (with_reducible refine Kd.C_drew ?_))); (case side2 => exact (Kd.R_reads' HO374.out).2.1); rintro e w56 ⟨v413, rfl, ho0, hb⟩; have n0_ := Aside0.mk (Kd.R_elder' (by (with_reducible repeat (first | apply Kd.R_alloc | apply Kd.R_drewN | apply Kd.R_drew)); exact HO374.out) (Kd.R_base ho0) hb); have n1_ := Aside0.mk (Kd.R_elder' (by (with_reducible repeat (first | apply Kd.R_alloc | apply Kd.R_drewN | apply Kd.R_drew)); exact HO379.out) (Kd.R_base ho0) hb); have n2_ := Aside0.mk (Kd.R_elder' (by (with_reducible repeat (first | apply Kd.R_alloc | apply Kd.R_drewN | apply Kd.R_drew)); exact HO382.out) (Kd.R_base ho0) hb); have n3_ := Aside0.mk (Kd.R_elder' (by (with_reducible repeat (first | apply Kd.R_alloc | apply Kd.R_drewN | apply Kd.R_drew)); exact HO386.out) (Kd.R_base ho0) hb); have n4_ := Aside0.mk (Kd.R_elder' (by (with_reducible repeat (first | apply Kd.R_alloc | apply Kd.R_drewN | apply Kd.R_drew)); exact HO389.out) (Kd.R_base ho0) hb); have n5_ := Aside0.mk (Kd.R_elder' (by (with_reducible repeat (first | apply Kd.R_alloc | apply Kd.R_drewN | apply Kd.R_drew)); exact HO393.out) (Kd.R_base ho0) hb); have n6_ := Aside0.mk (Kd.R_elder' (by (with_reducible repeat (first | apply Kd.R_alloc | apply Kd.R_drewN | apply Kd.R_drew)); exact HO396.out) (Kd.R_base ho0) hb); have n7_ := Aside0.mk (Kd.R_elder' (by (with_reducible repeat (first | apply Kd.R_alloc | apply Kd.R_drewN | apply Kd.R_drew)); exact HO399.out) (Kd.R_base ho0) hb); have n8_ := Aside0.mk (Kd.R_elder' (by (with_reducible repeat (first | apply Kd.R_alloc | apply Kd.R_drewN | apply Kd.R_drew)); exact HO403.out) (Kd.R_base ho0) hb); have n9_ := Aside0.mk (Kd.R_elder' (by (with_reducible repeat (first | apply Kd.R_alloc | apply Kd.R_drewN | apply Kd.R_drew)); exact HO406.out) (Kd.R_base ho0) hb); have n10_ := Aside0.mk (Kd.R_elder' (by (with_reducible repeat (first | apply Kd.R_alloc | apply Kd.R_drewN | apply Kd.R_drew)); exact HO410.out) (Kd.R_base ho0) hb); have n11_ := Aside0.mk (Kd.R_lower (Kd.R_new' (Kd.R_new' (Kd.R_new' (Kd.R_new' (Kd.R_new' (Kd.R_new' (Kd.R_new' (Kd.R_new' (Kd.R_new' (Kd.R_new' (Kd.R_new' ho0 (Kd.R_lt (by (with_reducible repeat (first | apply Kd.R_alloc | apply Kd.R_drewN | apply Kd.R_drew)); exact HO374.out))) (Kd.R_lt (by (with_reducible repeat (first | apply Kd.R_alloc | apply Kd.R_drewN | apply Kd.R_drew)); exact HO379.out))) (Kd.R_lt (by (with_reducible repeat (first | apply Kd.R_alloc | apply Kd.R_drewN | apply Kd.R_drew)); exact HO382.out))) (Kd.R_lt (by (with_reducible repeat (first | apply Kd.R_alloc | apply Kd.R_drewN | apply Kd.R_drew)); exact HO386.out))) (Kd.R_lt (by (with_reducible repeat (first | apply Kd.R_alloc | apply Kd.R_drewN | apply Kd.R_drew)); exact HO389.out))) (Kd.R_lt (by (with_reducible repeat (first | apply Kd.R_alloc | apply Kd.R_drewN | apply Kd.R_drew)); exact HO393.out))) (Kd.R_lt (by (with_reducible repeat (first | apply Kd.R_alloc | apply Kd.R_drewN | apply Kd.R_drew)); exact HO396.out))) (Kd.R_lt (by (with_reducible repeat (first | apply Kd.R_alloc | apply Kd.R_drewN | apply Kd.R_drew)); exact HO399.out))) (Kd.R_lt (by (with_reducible repeat (first | apply Kd.R_alloc | apply Kd.R_drewN | apply Kd.R_drew)); exact HO403.out))) (Kd.R_lt (by (with_reducible repeat (first | apply Kd.R_alloc | apply Kd.R_drewN | apply Kd.R_drew)); exact HO406.out))) (Kd.R_lt (by (with_reducible repeat (first | apply Kd.R_alloc | apply Kd.R_drewN | apply Kd.R_drew)); exact HO410.out))) (below_size (by repeat (first | (with_reducible first | exact HB.out | apply below_alloc | apply pw_below_drewN | apply below_drew1) | exact HB.out)))); have n12_ := Aside0.mk (below_step (by repeat (first | (with_reducible first | exact HB.out | apply below_alloc | apply pw_below_drewN | apply below_drew1) | exact HB.out)) hb); clear HO374; clear HO379; clear HO382; clear HO386; clear HO389; clear HO393; clear HO396; clear HO399; clear HO403; clear HO406; clear HO410; clear HB; have HO374 := n0_; have HO379 := n1_; have HO382 := n2_; have HO386 := n3_; have HO389 := n4_; have HO393 := n5_; have HO396 := n6_; have HO399 := n7_; have HO403 := n8_; have HO406 := n9_; have HO410 := n10_; have HO414 := n11_; have HB := n12_; clear n0_ n1_ n2_ n3_ n4_ n5_ n6_ n7_ n8_ n9_ n10_ n11_ n12_; (try clear hb); (try clear hb2); (try clear hk); (try clear hi); (try clear ho0); obtain ⟨Ao57, co57, eo57⟩ := Kd.R_slice HO414.out; subst eo57) | (go_at_call 15; (with_reducible refine (zigguratref01_Same.calls k _ _ t412 _ _ t372 true _ ?side1 ?side2 ?side3 ?side4 A28.out).mono ?_); (case side1 => repeat (first | exact (Kd.R_reads' HO414.out).2.2 | (with_reducible refine Kd.C_alloc ?_ _) | (with_reducible refine Kd.C_drewN ?_ _) | (with_reducible refine Kd.C_drew ?_))); (case side2 => exact (Kd.R_reads' HO414.out).2.1); (case side3 => repeat (first | exact (Kd.R_reads' HO374.out).2.2 | (with_reducible refine Kd.C_alloc ?_ _) | (with_reducible refine Kd.C_drewN ?_ _) | (with_reducible refine Kd.C_drew ?_))); (case side4 => exact (Kd.R_reads' HO374.out).2.1); rintro e w' ⟨rfl, ⟨nd, rfl⟩⟩) | (go_at_call 13; (with_reducible refine (nat_Right.calls _ _ t377 true _ ?side1 ?side2 A30.out).mono ?_); (case side1 => repeat (first | exact (Kd.R_reads' HO379.out).2.2 | (with_reducible refine Kd.C_alloc ?_ _) | (with_reducible refine Kd.C_drewN ?_ _) | (with_reducible refine Kd.C_drew ?_))); (case side2 => exact (Kd.R_reads' HO379.out).2.1); rintro e w' ⟨rfl, ⟨nd, rfl⟩⟩))
                    go_ret
                    exact ⟨by first | rfl | (simp [errW_none, errW_some] <;> rfl) | (simp [*, errW_none, errW_some] <;> rfl), below_step HW.out (by repeat (first | (with_reducible first | exact HB.out | apply below_alloc | apply pw_below_drewN | apply below_drew1) | exact HB.out))⟩
                  · replace c31 := Bool.eq_false_iff.mpr c31
                    subst c31
                    have H1 : (none) = some r := by rw [if_neg (show ¬ (false = true) by decide)] at H; exact H
                    clear H
                    have H := H1
                    clear H1
                    exact absurd H (by simp)
                · replace c29 := Bool.eq_false_iff.mpr c29
                  subst c29
                  have H1 : (none) = some r := by rw [if_neg (show ¬ (false = true) by decide)] at H; exact H
                  clear H
                  have H := H1
                  clear H1
                  exact absurd H (by simp)
              · replace c26 := Bool.eq_false_iff.mpr c26
                subst c26
                have H1 : (none) = some r := by rw [if_neg (show ¬ (false = true) by decide)] at H; exact H
                clear H
                have H := H1
                clear H1
                exact absurd H (by simp)
            · replace c23 := Bool.eq_false_iff.mpr c23
              subst c23
              have H1 : (none) = some r := by rw [if_neg (show ¬ (false = true) by decide)] at H; exact H
              clear H
              have H := H1
              clear H1
              exact absurd H (by simp)
          · replace c19 := Bool.eq_false_iff.mpr c19
            subst c19
            have H1 : (none) = some r := by rw [if_neg (show ¬ (false = true) by decide)] at H; exact H
            clear H
            have H := H1
            clear H1
            exact absurd H (by simp)
        · replace c14 := Bool.eq_false_iff.mpr c14
          subst c14
          have H1 : (none) = some r := by rw [if_neg (show ¬ (false = true) by decide)] at H; exact H
          clear H
          have H := H1
          clear H1
          exact absurd H (by simp)
      · replace c10 := Bool.eq_false_iff.mpr c10
        subst c10
        have H1 : (none) = some r := by rw [if_neg (show ¬ (false = true) by decide)] at H; exact H
        clear H
        have H := H1
        clear H1
        exact absurd H (by simp)
    · rw [if_neg c6] at H
      exact absurd H (by simp)
  · rw [if_neg c5] at H
    exact absurd H (by simp)


end Go.Proofs.Ytplkofflhacehaa.Q
