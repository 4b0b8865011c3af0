-- Written by programs of this session (a patched print, turned by hand) for this claim; Lean checks it.
import Derived.Test.YtplkofflhacehaaQ11
import Derived.Test.YtplkofflhacehaaQ12
import Derived.WalkSmall
namespace Go.Proofs.Ytplkofflhacehaa.Q
open Go.RowKit Go.Proofs.YtplkofflhacehaaW.PrintWords Go.Proofs.YtplkofflhacehaaW.PrintLast Go.Proofs.YtplkofflhacehaaW.PrintMore
attribute [local go_sem] max2_int min2_int max_two min_two max_three min_three max_four min_four   -- for this text's walks alone
set_option linter.unusedVariables false
set_option linter.unusedSimpArgs false
theorem box2t_ (w : World) {b0 b1 : Int} {l : List Int} (h : l = [b0, b1]) : Kd.C (Kd.int .u16) (w.alloc (.cells #[.int .u16 b0, .int .u16 b1] 24)) (some ⟨w.heap.size, 0, none⟩) l.length l ∧ Below w.heap.size w (w.alloc (.cells #[.int .u16 b0, .int .u16 b1] 24)) := by
  subst h
  refine ⟨Kd.C_of_reads (d := (0 : Int)) (h1 := fun _ => rfl) ⟨rfl, by simp, fun _ => ⟨_, rfl, fun i hi => ?_⟩⟩, (Below.refl _ w).alloc (Nat.le_refl _) _⟩
  have hc := cell_two_new w (.int .u16 b0) (.int .u16 b1) 24
  match i, hi with
  | 0, _ => exact hc 0 _ rfl
  | 1, _ => exact hc 1 _ rfl
/-! ### zigguratlaw01_NatTells: function 3 -/
def zigguratlaw01_NatTells.f (k : Nat) (l0 : List Int) (l1 : List Int) (l2 : List Int) : Option (Bool) := (zigguratlaw01_head.f k).bind fun t307 => (if 0 ≤ (mn (l0.length : Int) 60) then (if (mn (l0.length : Int) 60) ≤ (l0.length : Int) then (if 0 ≤ (mn (l1.length : Int) 60) then (if (mn (l1.length : Int) 60) ≤ (l1.length : Int) then ((nat_Right.f (l0.take ((mn (l0.length : Int) 60) : Int).toNat)).bind fun t310 => ((zigguratref01_Right.f (l0.take ((mn (l0.length : Int) 60) : Int).toNat)).bind fun t311 => (if (t310 != t311) = true then (none) else ((nat_Make.f k (l0.take ((mn (l0.length : Int) 60) : Int).toNat)).bind fun t312 => ((zigguratref01_Make.f k (l0.take ((mn (l0.length : Int) 60) : Int).toNat)).bind fun t315 => ((zigguratref01_Same.f k t312 t315).bind fun t318 => (if t318 = true then ((zigguratref01_Make.f k (l0.take ((mn (l0.length : Int) 60) : Int).toNat)).bind fun t319 => ((zigguratref01_Make.f k (l1.take ((mn (l1.length : Int) 60) : Int).toNat)).bind fun t322 => (if 0 < (l2.length : Int) then (if 1 < (l2.length : Int) then ((nat_Sub.f k t319 t322).bind fun bt327 => ((zigguratref01_Sub.f k t319 t322).bind fun bt331 => ((nat_Low.f k t319).bind fun bt335 => ((zigguratref01_Low.f k t319).bind fun bt337 => ((zigguratref01_Same.f k bt327.1 bt331.1).bind fun t339 => (if t339 = true then (if (bt327.2 == bt331.2) = true then (if bt335.1 = bt337.1 then (if (bt335.2 == bt337.2) = true then ((nat_Add.f k t319 t322).bind fun t340 => ((zigguratref01_Add.f k t319 t322).bind fun t343 => ((zigguratref01_Same.f k t340 t343).bind fun t346 => (if t346 = true then ((nat_Cmp.f k t319 t322).bind fun t347 => ((zigguratref01_Cmp.f k t319 t322).bind fun t348 => (if t347 = t348 then ((nat_Bits.f t319).bind fun t349 => ((zigguratref01_Bits.f k t319).bind fun t350 => (if t349 = t350 then ((nat_Bit.f t319 (wrap64 ((Int.tmod (wrap64 (rd l2 1)) 2100) - 50))).bind fun t351 => ((zigguratref01_Bit.f k t319 (wrap64 ((Int.tmod (wrap64 (rd l2 1)) 2100) - 50))).bind fun t352 => (if t351 = t352 then ((nat_Shl.f k t319 (Int.tmod (wrap64 (rd l2 0)) 2001)).bind fun t353 => ((zigguratref01_Shl.f k t319 (Int.tmod (wrap64 (rd l2 0)) 2001)).bind fun t356 => ((zigguratref01_Same.f k t353 t356).bind fun t359 => (if t359 = true then ((nat_Shr.f k t319 (Int.tmod (wrap64 (rd l2 0)) 2001)).bind fun t360 => ((zigguratref01_Shr.f k t319 (Int.tmod (wrap64 (rd l2 0)) 2001)).bind fun t363 => ((zigguratref01_Same.f k t360 t363).bind fun t366 => (if t366 = true then (some t307) else (none))))) else (none))))) else (none)))) else (none)))) else (none)))) else (none))))) else (none)) else (none)) else (none)) else (none))))))) else (none)) else (none)))) else (none)))))))) else (none)) else (none)) else (none)) else (none))
theorem zigguratlaw01_NatTells.mono : ∀ a0 a1 a2 k, LeO (zigguratlaw01_NatTells.f k a0 a1 a2) (zigguratlaw01_NatTells.f (k + 1) a0 a1 a2) := by
  intro a0 a1 a2 k
  unfold zigguratlaw01_NatTells.f
  repeat' first
      | (with_reducible exact nat_Add.mono _ _ _)
      | (with_reducible exact nat_Cmp.mono _ _ _)
      | (with_reducible exact nat_Low.mono _ _)
      | (with_reducible exact nat_Make.mono _ _)
      | (with_reducible exact nat_Shl.mono _ _ _)
      | (with_reducible exact nat_Shr.mono _ _ _)
      | (with_reducible exact nat_Sub.mono _ _ _)
      | (with_reducible exact zigguratlaw01_head.mono _)
      | (with_reducible exact zigguratref01_Add.mono _ _ _)
      | (with_reducible exact zigguratref01_Bit.mono _ _ _)
      | (with_reducible exact zigguratref01_Bits.mono _ _)
      | (with_reducible exact zigguratref01_Cmp.mono _ _ _)
      | (with_reducible exact zigguratref01_Low.mono _ _)
      | (with_reducible exact zigguratref01_Make.mono _ _)
      | (with_reducible exact zigguratref01_Same.mono _ _ _)
      | (with_reducible exact zigguratref01_Shl.mono _ _ _)
      | (with_reducible exact zigguratref01_Shr.mono _ _ _)
      | (with_reducible exact zigguratref01_Sub.mono _ _ _)
      | (with_reducible exact LeO.refl _)
      | (with_reducible exact LeO.none _)
      | (with_reducible refine LeO.ite ?_ ?_)
      | (with_reducible refine LeO.bind ?_ (fun _ => ?_))
      | exact nat_Add.mono _ _ _
      | exact nat_Cmp.mono _ _ _
      | exact nat_Low.mono _ _
      | exact nat_Make.mono _ _
      | exact nat_Shl.mono _ _ _
      | exact nat_Shr.mono _ _ _
      | exact nat_Sub.mono _ _ _
      | exact zigguratlaw01_head.mono _
      | exact zigguratref01_Add.mono _ _ _
      | exact zigguratref01_Bit.mono _ _ _
      | exact zigguratref01_Bits.mono _ _
      | exact zigguratref01_Cmp.mono _ _ _
      | exact zigguratref01_Low.mono _ _
      | exact zigguratref01_Make.mono _ _
      | exact zigguratref01_Same.mono _ _ _
      | exact zigguratref01_Shl.mono _ _ _
      | exact zigguratref01_Shr.mono _ _ _
      | exact zigguratref01_Sub.mono _ _ _
      | exact LeO.none _
      | refine LeO.ite ?_ ?_
      | refine LeO.bind ?_ (fun _ => ?_)
def zigguratlaw01_NatTells.T2 : Bool × List (List Nat × List Nat) := (true, [([], []), ([], []), ([1], [1]), ([2], [2]), ([0, 3], [0, 3]), ([], []), ([], []), ([6], [6]), ([7], [7]), ([5, 8], [5, 8]), ([4, 0, 1, 2, 3, 4], [4]), ([9, 10, 0, 1, 2, 3, 4, 5, 6, 7, 8, 9, 10], [9])])
def zigguratlaw01_NatTells.B2 : List Nat := [0, 0, 2, 6, 15, 0, 0, 64, 192, 480, 31, 2047]
theorem zigguratlaw01_NatTells.tab2 : rtab .any (opsOf Try.f3 2) = zigguratlaw01_NatTells.T2 := by kernel_rfl
theorem zigguratlaw01_NatTells.bits2 : waitsOk zigguratlaw01_NatTells.T2.2 zigguratlaw01_NatTells.B2 = true := by kernel_rfl
def zigguratlaw01_NatTells.T5 : Bool × List (List Nat × List Nat) := (true, [([], []), ([0], [0]), ([], []), ([2, 1], [2]), ([], []), ([4], [4]), ([5], [5]), ([6], [6]), ([], []), ([8], [8]), ([9], [9]), ([10], [10]), ([11], [11]), ([1, 3, 0, 1], [1]), ([3, 13, 0, 1, 2, 3, 13], [3]), ([7, 14, 0, 1, 2, 3, 4, 5, 6, 7, 13, 14], [7]), ([12, 15, 0, 1, 2, 3, 4, 5, 6, 7, 8, 9, 10, 11, 12, 13, 14, 15], [12])])
def zigguratlaw01_NatTells.B5 : List Nat := [0, 1, 0, 7, 0, 16, 48, 112, 0, 256, 768, 1792, 3840, 15, 8207, 24831, 65535]
theorem zigguratlaw01_NatTells.tab5 : rtab .any (opsOf Try.f3 5) = zigguratlaw01_NatTells.T5 := by kernel_rfl
theorem zigguratlaw01_NatTells.bits5 : waitsOk zigguratlaw01_NatTells.T5.2 zigguratlaw01_NatTells.B5 = true := by kernel_rfl
set_option maxHeartbeats 8000000 in
set_option maxRecDepth 100000 in
theorem zigguratlaw01_NatTells.calls (k : Nat) (A0 : Option Addr) (c0 : Nat) (l0 : List Int) (A1 : Option Addr) (c1 : Nat) (l1 : List Int) (b0 b1 : Int) (r : Bool) (wz : World) (hr0 : Kd.C (Kd.int .u32) wz A0 l0.length l0) (hc0 : l0.length ≤ c0) (hr1 : Kd.C (Kd.int .u32) wz A1 l1.length l1) (hc1 : l1.length ≤ c1) (h : zigguratlaw01_NatTells.f k l0 l1 [b0, b1] = some r) :
    Calls Try.prog 3 #[.slice A0 l0.length c0, .slice A1 l1.length c1, .agg #[.int .u16 b0, .int .u16 b1]] wz fun e w' => e = .returned (.bool r) ∧ Below wz.heap.size wz w' := by
  have HR0 := Aside0.mk hr0
  have HC0 := Aside0.mk hc0
  clear hr0 hc0
  have HR1 := Aside0.mk hr1
  have HC1 := Aside0.mk hc1
  clear hr1 hc1
  obtain ⟨l2, hl_⟩ : ∃ l_ : List Int, l_ = [b0, b1] := ⟨_, rfl⟩
  rw [← hl_] at h
  have HLL := Aside0.mk hl_
  clear hl_
  have H : ((zigguratlaw01_head.f k).bind fun t307 => (if 0 ≤ (mn (l0.length : Int) 60) then (if (mn (l0.length : Int) 60) ≤ (l0.length : Int) then (if 0 ≤ (mn (l1.length : Int) 60) then (if (mn (l1.length : Int) 60) ≤ (l1.length : Int) then ((nat_Right.f (l0.take ((mn (l0.length : Int) 60) : Int).toNat)).bind fun t310 => ((zigguratref01_Right.f (l0.take ((mn (l0.length : Int) 60) : Int).toNat)).bind fun t311 => (if (t310 != t311) = true then (none) else ((nat_Make.f k (l0.take ((mn (l0.length : Int) 60) : Int).toNat)).bind fun t312 => ((zigguratref01_Make.f k (l0.take ((mn (l0.length : Int) 60) : Int).toNat)).bind fun t315 => ((zigguratref01_Same.f k t312 t315).bind fun t318 => (if t318 = true then ((zigguratref01_Make.f k (l0.take ((mn (l0.length : Int) 60) : Int).toNat)).bind fun t319 => ((zigguratref01_Make.f k (l1.take ((mn (l1.length : Int) 60) : Int).toNat)).bind fun t322 => (if 0 < (l2.length : Int) then (if 1 < (l2.length : Int) then ((nat_Sub.f k t319 t322).bind fun bt327 => ((zigguratref01_Sub.f k t319 t322).bind fun bt331 => ((nat_Low.f k t319).bind fun bt335 => ((zigguratref01_Low.f k t319).bind fun bt337 => ((zigguratref01_Same.f k bt327.1 bt331.1).bind fun t339 => (if t339 = true then (if (bt327.2 == bt331.2) = true then (if bt335.1 = bt337.1 then (if (bt335.2 == bt337.2) = true then ((nat_Add.f k t319 t322).bind fun t340 => ((zigguratref01_Add.f k t319 t322).bind fun t343 => ((zigguratref01_Same.f k t340 t343).bind fun t346 => (if t346 = true then ((nat_Cmp.f k t319 t322).bind fun t347 => ((zigguratref01_Cmp.f k t319 t322).bind fun t348 => (if t347 = t348 then ((nat_Bits.f t319).bind fun t349 => ((zigguratref01_Bits.f k t319).bind fun t350 => (if t349 = t350 then ((nat_Bit.f t319 (wrap64 ((Int.tmod (wrap64 (rd l2 1)) 2100) - 50))).bind fun t351 => ((zigguratref01_Bit.f k t319 (wrap64 ((Int.tmod (wrap64 (rd l2 1)) 2100) - 50))).bind fun t352 => (if t351 = t352 then ((nat_Shl.f k t319 (Int.tmod (wrap64 (rd l2 0)) 2001)).bind fun t353 => ((zigguratref01_Shl.f k t319 (Int.tmod (wrap64 (rd l2 0)) 2001)).bind fun t356 => ((zigguratref01_Same.f k t353 t356).bind fun t359 => (if t359 = true then ((nat_Shr.f k t319 (Int.tmod (wrap64 (rd l2 0)) 2001)).bind fun t360 => ((zigguratref01_Shr.f k t319 (Int.tmod (wrap64 (rd l2 0)) 2001)).bind fun t363 => ((zigguratref01_Same.f k t360 t363).bind fun t366 => (if t366 = true then (some t307) else (none))))) else (none))))) else (none)))) else (none)))) else (none)))) else (none))))) else (none)) else (none)) else (none)) else (none))))))) else (none)) else (none)))) else (none)))))))) else (none)) else (none)) else (none)) else (none))) = some r := h
  clear h
  replace H := Option.bind_eq_some_iff.mp H
  obtain ⟨t307, A40, H⟩ := H
  replace H : (if 0 ≤ (mn (l0.length : Int) 60) then (if (mn (l0.length : Int) 60) ≤ (l0.length : Int) then (if 0 ≤ (mn (l1.length : Int) 60) then (if (mn (l1.length : Int) 60) ≤ (l1.length : Int) then ((nat_Right.f (l0.take ((mn (l0.length : Int) 60) : Int).toNat)).bind fun t310 => ((zigguratref01_Right.f (l0.take ((mn (l0.length : Int) 60) : Int).toNat)).bind fun t311 => (if (t310 != t311) = true then (none) else ((nat_Make.f k (l0.take ((mn (l0.length : Int) 60) : Int).toNat)).bind fun t312 => ((zigguratref01_Make.f k (l0.take ((mn (l0.length : Int) 60) : Int).toNat)).bind fun t315 => ((zigguratref01_Same.f k t312 t315).bind fun t318 => (if t318 = true then ((zigguratref01_Make.f k (l0.take ((mn (l0.length : Int) 60) : Int).toNat)).bind fun t319 => ((zigguratref01_Make.f k (l1.take ((mn (l1.length : Int) 60) : Int).toNat)).bind fun t322 => (if 0 < (l2.length : Int) then (if 1 < (l2.length : Int) then ((nat_Sub.f k t319 t322).bind fun bt327 => ((zigguratref01_Sub.f k t319 t322).bind fun bt331 => ((nat_Low.f k t319).bind fun bt335 => ((zigguratref01_Low.f k t319).bind fun bt337 => ((zigguratref01_Same.f k bt327.1 bt331.1).bind fun t339 => (if t339 = true then (if (bt327.2 == bt331.2) = true then (if bt335.1 = bt337.1 then (if (bt335.2 == bt337.2) = true then ((nat_Add.f k t319 t322).bind fun t340 => ((zigguratref01_Add.f k t319 t322).bind fun t343 => ((zigguratref01_Same.f k t340 t343).bind fun t346 => (if t346 = true then ((nat_Cmp.f k t319 t322).bind fun t347 => ((zigguratref01_Cmp.f k t319 t322).bind fun t348 => (if t347 = t348 then ((nat_Bits.f t319).bind fun t349 => ((zigguratref01_Bits.f k t319).bind fun t350 => (if t349 = t350 then ((nat_Bit.f t319 (wrap64 ((Int.tmod (wrap64 (rd l2 1)) 2100) - 50))).bind fun t351 => ((zigguratref01_Bit.f k t319 (wrap64 ((Int.tmod (wrap64 (rd l2 1)) 2100) - 50))).bind fun t352 => (if t351 = t352 then ((nat_Shl.f k t319 (Int.tmod (wrap64 (rd l2 0)) 2001)).bind fun t353 => ((zigguratref01_Shl.f k t319 (Int.tmod (wrap64 (rd l2 0)) 2001)).bind fun t356 => ((zigguratref01_Same.f k t353 t356).bind fun t359 => (if t359 = true then ((nat_Shr.f k t319 (Int.tmod (wrap64 (rd l2 0)) 2001)).bind fun t360 => ((zigguratref01_Shr.f k t319 (Int.tmod (wrap64 (rd l2 0)) 2001)).bind fun t363 => ((zigguratref01_Same.f k t360 t363).bind fun t366 => (if t366 = true then (some t307) else (none))))) else (none))))) else (none)))) else (none)))) else (none)))) else (none))))) else (none)) else (none)) else (none)) else (none))))))) else (none)) else (none)))) else (none)))))))) else (none)) else (none)) else (none)) else (none)) = some r := H
  have A4 := Aside0.mk A40
  clear A40
  obtain ⟨ji5, hji5⟩ : ∃ j_ : Int, (mn (l0.length : Int) 60) = j_ := ⟨_, rfl⟩
  replace H : (if 0 ≤ (ji5) then (if (ji5) ≤ (l0.length : Int) then (if 0 ≤ (mn (l1.length : Int) 60) then (if (mn (l1.length : Int) 60) ≤ (l1.length : Int) then ((nat_Right.f (l0.take ((ji5) : Int).toNat)).bind fun t310 => ((zigguratref01_Right.f (l0.take ((ji5) : Int).toNat)).bind fun t311 => (if (t310 != t311) = true then (none) else ((nat_Make.f k (l0.take ((ji5) : Int).toNat)).bind fun t312 => ((zigguratref01_Make.f k (l0.take ((ji5) : Int).toNat)).bind fun t315 => ((zigguratref01_Same.f k t312 t315).bind fun t318 => (if t318 = true then ((zigguratref01_Make.f k (l0.take ((ji5) : Int).toNat)).bind fun t319 => ((zigguratref01_Make.f k (l1.take ((mn (l1.length : Int) 60) : Int).toNat)).bind fun t322 => (if 0 < (l2.length : Int) then (if 1 < (l2.length : Int) then ((nat_Sub.f k t319 t322).bind fun bt327 => ((zigguratref01_Sub.f k t319 t322).bind fun bt331 => ((nat_Low.f k t319).bind fun bt335 => ((zigguratref01_Low.f k t319).bind fun bt337 => ((zigguratref01_Same.f k bt327.1 bt331.1).bind fun t339 => (if t339 = true then (if (bt327.2 == bt331.2) = true then (if bt335.1 = bt337.1 then (if (bt335.2 == bt337.2) = true then ((nat_Add.f k t319 t322).bind fun t340 => ((zigguratref01_Add.f k t319 t322).bind fun t343 => ((zigguratref01_Same.f k t340 t343).bind fun t346 => (if t346 = true then ((nat_Cmp.f k t319 t322).bind fun t347 => ((zigguratref01_Cmp.f k t319 t322).bind fun t348 => (if t347 = t348 then ((nat_Bits.f t319).bind fun t349 => ((zigguratref01_Bits.f k t319).bind fun t350 => (if t349 = t350 then ((nat_Bit.f t319 (wrap64 ((Int.tmod (wrap64 (rd l2 1)) 2100) - 50))).bind fun t351 => ((zigguratref01_Bit.f k t319 (wrap64 ((Int.tmod (wrap64 (rd l2 1)) 2100) - 50))).bind fun t352 => (if t351 = t352 then ((nat_Shl.f k t319 (Int.tmod (wrap64 (rd l2 0)) 2001)).bind fun t353 => ((zigguratref01_Shl.f k t319 (Int.tmod (wrap64 (rd l2 0)) 2001)).bind fun t356 => ((zigguratref01_Same.f k t353 t356).bind fun t359 => (if t359 = true then ((nat_Shr.f k t319 (Int.tmod (wrap64 (rd l2 0)) 2001)).bind fun t360 => ((zigguratref01_Shr.f k t319 (Int.tmod (wrap64 (rd l2 0)) 2001)).bind fun t363 => ((zigguratref01_Same.f k t360 t363).bind fun t366 => (if t366 = true then (some t307) else (none))))) else (none))))) else (none)))) else (none)))) else (none)))) else (none))))) else (none)) else (none)) else (none)) else (none))))))) else (none)) else (none)))) else (none)))))))) else (none)) else (none)) else (none)) else (none)) = some r := by first | (rw [hji5] at H; exact H) | (simp only [hji5] at H ⊢; exact H)
  (try rw [hji5] at A4)
  (try (have hji5h : ji5 ≤ 60 := by (rw [← hji5]; unfold mn; (repeat' split) <;> omega)))
  (try (have hji5g : ji5 ≤ 64 := by omega))
  (try (have hji5l : 0 ≤ ji5 := by (rw [← hji5]; unfold mn; (repeat' split) <;> omega)))
  (try (have hji5m : 0 ≤ ji5 := by omega))
  have hji5_ : (if 60 < (l0.length : Int) then 60 else (l0.length : Int)) = ji5 := hji5
  have hji5n_ := hji5_
  (try simp only [Int.ofNat_lt] at hji5n_)
  by_cases c6 : 0 ≤ (ji5)
  · rw [if_pos c6] at H
    have c6b0 := eq_true c6
    have c6b1 : decide (0 ≤ (ji5)) = true := decide_eq_true c6
    clear c6
    by_cases c7 : (ji5) ≤ (l0.length : Int)
    · rw [if_pos c7] at H
      have c7b0 := eq_true c7
      have c7b1 : decide ((ji5) ≤ (l0.length : Int)) = true := decide_eq_true c7
      clear c7
      obtain ⟨ji8, hji8⟩ : ∃ j_ : Int, (mn (l1.length : Int) 60) = j_ := ⟨_, rfl⟩
      replace H : (if 0 ≤ (ji8) then (if (ji8) ≤ (l1.length : Int) then ((nat_Right.f (l0.take ((ji5) : Int).toNat)).bind fun t310 => ((zigguratref01_Right.f (l0.take ((ji5) : Int).toNat)).bind fun t311 => (if (t310 != t311) = true then (none) else ((nat_Make.f k (l0.take ((ji5) : Int).toNat)).bind fun t312 => ((zigguratref01_Make.f k (l0.take ((ji5) : Int).toNat)).bind fun t315 => ((zigguratref01_Same.f k t312 t315).bind fun t318 => (if t318 = true then ((zigguratref01_Make.f k (l0.take ((ji5) : Int).toNat)).bind fun t319 => ((zigguratref01_Make.f k (l1.take ((ji8) : Int).toNat)).bind fun t322 => (if 0 < (l2.length : Int) then (if 1 < (l2.length : Int) then ((nat_Sub.f k t319 t322).bind fun bt327 => ((zigguratref01_Sub.f k t319 t322).bind fun bt331 => ((nat_Low.f k t319).bind fun bt335 => ((zigguratref01_Low.f k t319).bind fun bt337 => ((zigguratref01_Same.f k bt327.1 bt331.1).bind fun t339 => (if t339 = true then (if (bt327.2 == bt331.2) = true then (if bt335.1 = bt337.1 then (if (bt335.2 == bt337.2) = true then ((nat_Add.f k t319 t322).bind fun t340 => ((zigguratref01_Add.f k t319 t322).bind fun t343 => ((zigguratref01_Same.f k t340 t343).bind fun t346 => (if t346 = true then ((nat_Cmp.f k t319 t322).bind fun t347 => ((zigguratref01_Cmp.f k t319 t322).bind fun t348 => (if t347 = t348 then ((nat_Bits.f t319).bind fun t349 => ((zigguratref01_Bits.f k t319).bind fun t350 => (if t349 = t350 then ((nat_Bit.f t319 (wrap64 ((Int.tmod (wrap64 (rd l2 1)) 2100) - 50))).bind fun t351 => ((zigguratref01_Bit.f k t319 (wrap64 ((Int.tmod (wrap64 (rd l2 1)) 2100) - 50))).bind fun t352 => (if t351 = t352 then ((nat_Shl.f k t319 (Int.tmod (wrap64 (rd l2 0)) 2001)).bind fun t353 => ((zigguratref01_Shl.f k t319 (Int.tmod (wrap64 (rd l2 0)) 2001)).bind fun t356 => ((zigguratref01_Same.f k t353 t356).bind fun t359 => (if t359 = true then ((nat_Shr.f k t319 (Int.tmod (wrap64 (rd l2 0)) 2001)).bind fun t360 => ((zigguratref01_Shr.f k t319 (Int.tmod (wrap64 (rd l2 0)) 2001)).bind fun t363 => ((zigguratref01_Same.f k t360 t363).bind fun t366 => (if t366 = true then (some t307) else (none))))) else (none))))) else (none)))) else (none)))) else (none)))) else (none))))) else (none)) else (none)) else (none)) else (none))))))) else (none)) else (none)))) else (none)))))))) else (none)) else (none)) = some r := by first | (rw [hji8] at H; exact H) | (simp only [hji8] at H ⊢; exact H)
      (try rw [hji8] at A4)
      (try (have hji8h : ji8 ≤ 60 := by (rw [← hji8]; unfold mn; (repeat' split) <;> omega)))
      (try (have hji8g : ji8 ≤ 64 := by omega))
      (try (have hji8l : 0 ≤ ji8 := by (rw [← hji8]; unfold mn; (repeat' split) <;> omega)))
      (try (have hji8m : 0 ≤ ji8 := by omega))
      have hji8_ : (if 60 < (l1.length : Int) then 60 else (l1.length : Int)) = ji8 := hji8
      have hji8n_ := hji8_
      (try simp only [Int.ofNat_lt] at hji8n_)
      by_cases c9 : 0 ≤ (ji8)
      · rw [if_pos c9] at H
        have c9b0 := eq_true c9
        have c9b1 : decide (0 ≤ (ji8)) = true := decide_eq_true c9
        clear c9
        by_cases c10 : (ji8) ≤ (l1.length : Int)
        · rw [if_pos c10] at H
          have c10b0 := eq_true c10
          have c10b1 : decide ((ji8) ≤ (l1.length : Int)) = true := decide_eq_true c10
          clear c10
          replace H := Option.bind_eq_some_iff.mp H
          obtain ⟨t310, A110, H⟩ := H
          replace H : ((zigguratref01_Right.f (l0.take ((ji5) : Int).toNat)).bind fun t311 => (if (t310 != t311) = true then (none) else ((nat_Make.f k (l0.take ((ji5) : Int).toNat)).bind fun t312 => ((zigguratref01_Make.f k (l0.take ((ji5) : Int).toNat)).bind fun t315 => ((zigguratref01_Same.f k t312 t315).bind fun t318 => (if t318 = true then ((zigguratref01_Make.f k (l0.take ((ji5) : Int).toNat)).bind fun t319 => ((zigguratref01_Make.f k (l1.take ((ji8) : Int).toNat)).bind fun t322 => (if 0 < (l2.length : Int) then (if 1 < (l2.length : Int) then ((nat_Sub.f k t319 t322).bind fun bt327 => ((zigguratref01_Sub.f k t319 t322).bind fun bt331 => ((nat_Low.f k t319).bind fun bt335 => ((zigguratref01_Low.f k t319).bind fun bt337 => ((zigguratref01_Same.f k bt327.1 bt331.1).bind fun t339 => (if t339 = true then (if (bt327.2 == bt331.2) = true then (if bt335.1 = bt337.1 then (if (bt335.2 == bt337.2) = true then ((nat_Add.f k t319 t322).bind fun t340 => ((zigguratref01_Add.f k t319 t322).bind fun t343 => ((zigguratref01_Same.f k t340 t343).bind fun t346 => (if t346 = true then ((nat_Cmp.f k t319 t322).bind fun t347 => ((zigguratref01_Cmp.f k t319 t322).bind fun t348 => (if t347 = t348 then ((nat_Bits.f t319).bind fun t349 => ((zigguratref01_Bits.f k t319).bind fun t350 => (if t349 = t350 then ((nat_Bit.f t319 (wrap64 ((Int.tmod (wrap64 (rd l2 1)) 2100) - 50))).bind fun t351 => ((zigguratref01_Bit.f k t319 (wrap64 ((Int.tmod (wrap64 (rd l2 1)) 2100) - 50))).bind fun t352 => (if t351 = t352 then ((nat_Shl.f k t319 (Int.tmod (wrap64 (rd l2 0)) 2001)).bind fun t353 => ((zigguratref01_Shl.f k t319 (Int.tmod (wrap64 (rd l2 0)) 2001)).bind fun t356 => ((zigguratref01_Same.f k t353 t356).bind fun t359 => (if t359 = true then ((nat_Shr.f k t319 (Int.tmod (wrap64 (rd l2 0)) 2001)).bind fun t360 => ((zigguratref01_Shr.f k t319 (Int.tmod (wrap64 (rd l2 0)) 2001)).bind fun t363 => ((zigguratref01_Same.f k t360 t363).bind fun t366 => (if t366 = true then (some t307) else (none))))) else (none))))) else (none)))) else (none)))) else (none)))) else (none))))) else (none)) else (none)) else (none)) else (none))))))) else (none)) else (none)))) else (none))))))) = some r := H
          have A11 := Aside0.mk A110
          clear A110
          replace H := Option.bind_eq_some_iff.mp H
          obtain ⟨t311, A120, H⟩ := H
          replace H : (if (t310 != t311) = true then (none) else ((nat_Make.f k (l0.take ((ji5) : Int).toNat)).bind fun t312 => ((zigguratref01_Make.f k (l0.take ((ji5) : Int).toNat)).bind fun t315 => ((zigguratref01_Same.f k t312 t315).bind fun t318 => (if t318 = true then ((zigguratref01_Make.f k (l0.take ((ji5) : Int).toNat)).bind fun t319 => ((zigguratref01_Make.f k (l1.take ((ji8) : Int).toNat)).bind fun t322 => (if 0 < (l2.length : Int) then (if 1 < (l2.length : Int) then ((nat_Sub.f k t319 t322).bind fun bt327 => ((zigguratref01_Sub.f k t319 t322).bind fun bt331 => ((nat_Low.f k t319).bind fun bt335 => ((zigguratref01_Low.f k t319).bind fun bt337 => ((zigguratref01_Same.f k bt327.1 bt331.1).bind fun t339 => (if t339 = true then (if (bt327.2 == bt331.2) = true then (if bt335.1 = bt337.1 then (if (bt335.2 == bt337.2) = true then ((nat_Add.f k t319 t322).bind fun t340 => ((zigguratref01_Add.f k t319 t322).bind fun t343 => ((zigguratref01_Same.f k t340 t343).bind fun t346 => (if t346 = true then ((nat_Cmp.f k t319 t322).bind fun t347 => ((zigguratref01_Cmp.f k t319 t322).bind fun t348 => (if t347 = t348 then ((nat_Bits.f t319).bind fun t349 => ((zigguratref01_Bits.f k t319).bind fun t350 => (if t349 = t350 then ((nat_Bit.f t319 (wrap64 ((Int.tmod (wrap64 (rd l2 1)) 2100) - 50))).bind fun t351 => ((zigguratref01_Bit.f k t319 (wrap64 ((Int.tmod (wrap64 (rd l2 1)) 2100) - 50))).bind fun t352 => (if t351 = t352 then ((nat_Shl.f k t319 (Int.tmod (wrap64 (rd l2 0)) 2001)).bind fun t353 => ((zigguratref01_Shl.f k t319 (Int.tmod (wrap64 (rd l2 0)) 2001)).bind fun t356 => ((zigguratref01_Same.f k t353 t356).bind fun t359 => (if t359 = true then ((nat_Shr.f k t319 (Int.tmod (wrap64 (rd l2 0)) 2001)).bind fun t360 => ((zigguratref01_Shr.f k t319 (Int.tmod (wrap64 (rd l2 0)) 2001)).bind fun t363 => ((zigguratref01_Same.f k t360 t363).bind fun t366 => (if t366 = true then (some t307) else (none))))) else (none))))) else (none)))) else (none)))) else (none)))) else (none))))) else (none)) else (none)) else (none)) else (none))))))) else (none)) else (none)))) else (none)))))) = some r := H
          have A12 := Aside0.mk A120
          clear A120
          by_cases c13 : (t310 != t311) = true
          · rw [if_pos c13] at H
            exact absurd H (by simp)
          · rw [if_neg c13] at H
            have c13b0 : (t310 != t311) = false := by simpa using c13
            (try (have c13b1 : decide (t310 = t311) = true := by simpa using c13))
            (try (have c13b2 : (t310 == t311) = true := by simpa using c13))
            clear c13
            replace H := Option.bind_eq_some_iff.mp H
            obtain ⟨t312, A140, H⟩ := H
            replace H : ((zigguratref01_Make.f k (l0.take ((ji5) : Int).toNat)).bind fun t315 => ((zigguratref01_Same.f k t312 t315).bind fun t318 => (if t318 = true then ((zigguratref01_Make.f k (l0.take ((ji5) : Int).toNat)).bind fun t319 => ((zigguratref01_Make.f k (l1.take ((ji8) : Int).toNat)).bind fun t322 => (if 0 < (l2.length : Int) then (if 1 < (l2.length : Int) then ((nat_Sub.f k t319 t322).bind fun bt327 => ((zigguratref01_Sub.f k t319 t322).bind fun bt331 => ((nat_Low.f k t319).bind fun bt335 => ((zigguratref01_Low.f k t319).bind fun bt337 => ((zigguratref01_Same.f k bt327.1 bt331.1).bind fun t339 => (if t339 = true then (if (bt327.2 == bt331.2) = true then (if bt335.1 = bt337.1 then (if (bt335.2 == bt337.2) = true then ((nat_Add.f k t319 t322).bind fun t340 => ((zigguratref01_Add.f k t319 t322).bind fun t343 => ((zigguratref01_Same.f k t340 t343).bind fun t346 => (if t346 = true then ((nat_Cmp.f k t319 t322).bind fun t347 => ((zigguratref01_Cmp.f k t319 t322).bind fun t348 => (if t347 = t348 then ((nat_Bits.f t319).bind fun t349 => ((zigguratref01_Bits.f k t319).bind fun t350 => (if t349 = t350 then ((nat_Bit.f t319 (wrap64 ((Int.tmod (wrap64 (rd l2 1)) 2100) - 50))).bind fun t351 => ((zigguratref01_Bit.f k t319 (wrap64 ((Int.tmod (wrap64 (rd l2 1)) 2100) - 50))).bind fun t352 => (if t351 = t352 then ((nat_Shl.f k t319 (Int.tmod (wrap64 (rd l2 0)) 2001)).bind fun t353 => ((zigguratref01_Shl.f k t319 (Int.tmod (wrap64 (rd l2 0)) 2001)).bind fun t356 => ((zigguratref01_Same.f k t353 t356).bind fun t359 => (if t359 = true then ((nat_Shr.f k t319 (Int.tmod (wrap64 (rd l2 0)) 2001)).bind fun t360 => ((zigguratref01_Shr.f k t319 (Int.tmod (wrap64 (rd l2 0)) 2001)).bind fun t363 => ((zigguratref01_Same.f k t360 t363).bind fun t366 => (if t366 = true then (some t307) else (none))))) else (none))))) else (none)))) else (none)))) else (none)))) else (none))))) else (none)) else (none)) else (none)) else (none))))))) else (none)) else (none)))) else (none)))) = some r := H
            have A14 := Aside0.mk A140
            clear A140
            replace H := Option.bind_eq_some_iff.mp H
            obtain ⟨t315, A150, H⟩ := H
            replace H : ((zigguratref01_Same.f k t312 t315).bind fun t318 => (if t318 = true then ((zigguratref01_Make.f k (l0.take ((ji5) : Int).toNat)).bind fun t319 => ((zigguratref01_Make.f k (l1.take ((ji8) : Int).toNat)).bind fun t322 => (if 0 < (l2.length : Int) then (if 1 < (l2.length : Int) then ((nat_Sub.f k t319 t322).bind fun bt327 => ((zigguratref01_Sub.f k t319 t322).bind fun bt331 => ((nat_Low.f k t319).bind fun bt335 => ((zigguratref01_Low.f k t319).bind fun bt337 => ((zigguratref01_Same.f k bt327.1 bt331.1).bind fun t339 => (if t339 = true then (if (bt327.2 == bt331.2) = true then (if bt335.1 = bt337.1 then (if (bt335.2 == bt337.2) = true then ((nat_Add.f k t319 t322).bind fun t340 => ((zigguratref01_Add.f k t319 t322).bind fun t343 => ((zigguratref01_Same.f k t340 t343).bind fun t346 => (if t346 = true then ((nat_Cmp.f k t319 t322).bind fun t347 => ((zigguratref01_Cmp.f k t319 t322).bind fun t348 => (if t347 = t348 then ((nat_Bits.f t319).bind fun t349 => ((zigguratref01_Bits.f k t319).bind fun t350 => (if t349 = t350 then ((nat_Bit.f t319 (wrap64 ((Int.tmod (wrap64 (rd l2 1)) 2100) - 50))).bind fun t351 => ((zigguratref01_Bit.f k t319 (wrap64 ((Int.tmod (wrap64 (rd l2 1)) 2100) - 50))).bind fun t352 => (if t351 = t352 then ((nat_Shl.f k t319 (Int.tmod (wrap64 (rd l2 0)) 2001)).bind fun t353 => ((zigguratref01_Shl.f k t319 (Int.tmod (wrap64 (rd l2 0)) 2001)).bind fun t356 => ((zigguratref01_Same.f k t353 t356).bind fun t359 => (if t359 = true then ((nat_Shr.f k t319 (Int.tmod (wrap64 (rd l2 0)) 2001)).bind fun t360 => ((zigguratref01_Shr.f k t319 (Int.tmod (wrap64 (rd l2 0)) 2001)).bind fun t363 => ((zigguratref01_Same.f k t360 t363).bind fun t366 => (if t366 = true then (some t307) else (none))))) else (none))))) else (none)))) else (none)))) else (none)))) else (none))))) else (none)) else (none)) else (none)) else (none))))))) else (none)) else (none)))) else (none))) = some r := H
            have A15 := Aside0.mk A150
            clear A150
            replace H := Option.bind_eq_some_iff.mp H
            obtain ⟨t318, A160, H⟩ := H
            replace H : (if t318 = true then ((zigguratref01_Make.f k (l0.take ((ji5) : Int).toNat)).bind fun t319 => ((zigguratref01_Make.f k (l1.take ((ji8) : Int).toNat)).bind fun t322 => (if 0 < (l2.length : Int) then (if 1 < (l2.length : Int) then ((nat_Sub.f k t319 t322).bind fun bt327 => ((zigguratref01_Sub.f k t319 t322).bind fun bt331 => ((nat_Low.f k t319).bind fun bt335 => ((zigguratref01_Low.f k t319).bind fun bt337 => ((zigguratref01_Same.f k bt327.1 bt331.1).bind fun t339 => (if t339 = true then (if (bt327.2 == bt331.2) = true then (if bt335.1 = bt337.1 then (if (bt335.2 == bt337.2) = true then ((nat_Add.f k t319 t322).bind fun t340 => ((zigguratref01_Add.f k t319 t322).bind fun t343 => ((zigguratref01_Same.f k t340 t343).bind fun t346 => (if t346 = true then ((nat_Cmp.f k t319 t322).bind fun t347 => ((zigguratref01_Cmp.f k t319 t322).bind fun t348 => (if t347 = t348 then ((nat_Bits.f t319).bind fun t349 => ((zigguratref01_Bits.f k t319).bind fun t350 => (if t349 = t350 then ((nat_Bit.f t319 (wrap64 ((Int.tmod (wrap64 (rd l2 1)) 2100) - 50))).bind fun t351 => ((zigguratref01_Bit.f k t319 (wrap64 ((Int.tmod (wrap64 (rd l2 1)) 2100) - 50))).bind fun t352 => (if t351 = t352 then ((nat_Shl.f k t319 (Int.tmod (wrap64 (rd l2 0)) 2001)).bind fun t353 => ((zigguratref01_Shl.f k t319 (Int.tmod (wrap64 (rd l2 0)) 2001)).bind fun t356 => ((zigguratref01_Same.f k t353 t356).bind fun t359 => (if t359 = true then ((nat_Shr.f k t319 (Int.tmod (wrap64 (rd l2 0)) 2001)).bind fun t360 => ((zigguratref01_Shr.f k t319 (Int.tmod (wrap64 (rd l2 0)) 2001)).bind fun t363 => ((zigguratref01_Same.f k t360 t363).bind fun t366 => (if t366 = true then (some t307) else (none))))) else (none))))) else (none)))) else (none)))) else (none)))) else (none))))) else (none)) else (none)) else (none)) else (none))))))) else (none)) else (none)))) else (none)) = some r := H
            have A16 := Aside0.mk A160
            clear A160
            by_cases c17 : t318 = true
            · subst c17
              have H1 : ((zigguratref01_Make.f k (l0.take ((ji5) : Int).toNat)).bind fun t319 => ((zigguratref01_Make.f k (l1.take ((ji8) : Int).toNat)).bind fun t322 => (if 0 < (l2.length : Int) then (if 1 < (l2.length : Int) then ((nat_Sub.f k t319 t322).bind fun bt327 => ((zigguratref01_Sub.f k t319 t322).bind fun bt331 => ((nat_Low.f k t319).bind fun bt335 => ((zigguratref01_Low.f k t319).bind fun bt337 => ((zigguratref01_Same.f k bt327.1 bt331.1).bind fun t339 => (if t339 = true then (if (bt327.2 == bt331.2) = true then (if bt335.1 = bt337.1 then (if (bt335.2 == bt337.2) = true then ((nat_Add.f k t319 t322).bind fun t340 => ((zigguratref01_Add.f k t319 t322).bind fun t343 => ((zigguratref01_Same.f k t340 t343).bind fun t346 => (if t346 = true then ((nat_Cmp.f k t319 t322).bind fun t347 => ((zigguratref01_Cmp.f k t319 t322).bind fun t348 => (if t347 = t348 then ((nat_Bits.f t319).bind fun t349 => ((zigguratref01_Bits.f k t319).bind fun t350 => (if t349 = t350 then ((nat_Bit.f t319 (wrap64 ((Int.tmod (wrap64 (rd l2 1)) 2100) - 50))).bind fun t351 => ((zigguratref01_Bit.f k t319 (wrap64 ((Int.tmod (wrap64 (rd l2 1)) 2100) - 50))).bind fun t352 => (if t351 = t352 then ((nat_Shl.f k t319 (Int.tmod (wrap64 (rd l2 0)) 2001)).bind fun t353 => ((zigguratref01_Shl.f k t319 (Int.tmod (wrap64 (rd l2 0)) 2001)).bind fun t356 => ((zigguratref01_Same.f k t353 t356).bind fun t359 => (if t359 = true then ((nat_Shr.f k t319 (Int.tmod (wrap64 (rd l2 0)) 2001)).bind fun t360 => ((zigguratref01_Shr.f k t319 (Int.tmod (wrap64 (rd l2 0)) 2001)).bind fun t363 => ((zigguratref01_Same.f k t360 t363).bind fun t366 => (if t366 = true then (some t307) else (none))))) else (none))))) else (none)))) else (none)))) else (none)))) else (none))))) else (none)) else (none)) else (none)) else (none))))))) else (none)) else (none)))) = some r := by rw [if_pos rfl] at H; exact H
              clear H
              have H := H1
              clear H1
              replace H := Option.bind_eq_some_iff.mp H
              obtain ⟨t319, A180, H⟩ := H
              replace H : ((zigguratref01_Make.f k (l1.take ((ji8) : Int).toNat)).bind fun t322 => (if 0 < (l2.length : Int) then (if 1 < (l2.length : Int) then ((nat_Sub.f k t319 t322).bind fun bt327 => ((zigguratref01_Sub.f k t319 t322).bind fun bt331 => ((nat_Low.f k t319).bind fun bt335 => ((zigguratref01_Low.f k t319).bind fun bt337 => ((zigguratref01_Same.f k bt327.1 bt331.1).bind fun t339 => (if t339 = true then (if (bt327.2 == bt331.2) = true then (if bt335.1 = bt337.1 then (if (bt335.2 == bt337.2) = true then ((nat_Add.f k t319 t322).bind fun t340 => ((zigguratref01_Add.f k t319 t322).bind fun t343 => ((zigguratref01_Same.f k t340 t343).bind fun t346 => (if t346 = true then ((nat_Cmp.f k t319 t322).bind fun t347 => ((zigguratref01_Cmp.f k t319 t322).bind fun t348 => (if t347 = t348 then ((nat_Bits.f t319).bind fun t349 => ((zigguratref01_Bits.f k t319).bind fun t350 => (if t349 = t350 then ((nat_Bit.f t319 (wrap64 ((Int.tmod (wrap64 (rd l2 1)) 2100) - 50))).bind fun t351 => ((zigguratref01_Bit.f k t319 (wrap64 ((Int.tmod (wrap64 (rd l2 1)) 2100) - 50))).bind fun t352 => (if t351 = t352 then ((nat_Shl.f k t319 (Int.tmod (wrap64 (rd l2 0)) 2001)).bind fun t353 => ((zigguratref01_Shl.f k t319 (Int.tmod (wrap64 (rd l2 0)) 2001)).bind fun t356 => ((zigguratref01_Same.f k t353 t356).bind fun t359 => (if t359 = true then ((nat_Shr.f k t319 (Int.tmod (wrap64 (rd l2 0)) 2001)).bind fun t360 => ((zigguratref01_Shr.f k t319 (Int.tmod (wrap64 (rd l2 0)) 2001)).bind fun t363 => ((zigguratref01_Same.f k t360 t363).bind fun t366 => (if t366 = true then (some t307) else (none))))) else (none))))) else (none)))) else (none)))) else (none)))) else (none))))) else (none)) else (none)) else (none)) else (none))))))) else (none)) else (none))) = some r := H
              have A18 := Aside0.mk A180
              clear A180
              replace H := Option.bind_eq_some_iff.mp H
              obtain ⟨t322, A190, H⟩ := H
              replace H : (if 0 < (l2.length : Int) then (if 1 < (l2.length : Int) then ((nat_Sub.f k t319 t322).bind fun bt327 => ((zigguratref01_Sub.f k t319 t322).bind fun bt331 => ((nat_Low.f k t319).bind fun bt335 => ((zigguratref01_Low.f k t319).bind fun bt337 => ((zigguratref01_Same.f k bt327.1 bt331.1).bind fun t339 => (if t339 = true then (if (bt327.2 == bt331.2) = true then (if bt335.1 = bt337.1 then (if (bt335.2 == bt337.2) = true then ((nat_Add.f k t319 t322).bind fun t340 => ((zigguratref01_Add.f k t319 t322).bind fun t343 => ((zigguratref01_Same.f k t340 t343).bind fun t346 => (if t346 = true then ((nat_Cmp.f k t319 t322).bind fun t347 => ((zigguratref01_Cmp.f k t319 t322).bind fun t348 => (if t347 = t348 then ((nat_Bits.f t319).bind fun t349 => ((zigguratref01_Bits.f k t319).bind fun t350 => (if t349 = t350 then ((nat_Bit.f t319 (wrap64 ((Int.tmod (wrap64 (rd l2 1)) 2100) - 50))).bind fun t351 => ((zigguratref01_Bit.f k t319 (wrap64 ((Int.tmod (wrap64 (rd l2 1)) 2100) - 50))).bind fun t352 => (if t351 = t352 then ((nat_Shl.f k t319 (Int.tmod (wrap64 (rd l2 0)) 2001)).bind fun t353 => ((zigguratref01_Shl.f k t319 (Int.tmod (wrap64 (rd l2 0)) 2001)).bind fun t356 => ((zigguratref01_Same.f k t353 t356).bind fun t359 => (if t359 = true then ((nat_Shr.f k t319 (Int.tmod (wrap64 (rd l2 0)) 2001)).bind fun t360 => ((zigguratref01_Shr.f k t319 (Int.tmod (wrap64 (rd l2 0)) 2001)).bind fun t363 => ((zigguratref01_Same.f k t360 t363).bind fun t366 => (if t366 = true then (some t307) else (none))))) else (none))))) else (none)))) else (none)))) else (none)))) else (none))))) else (none)) else (none)) else (none)) else (none))))))) else (none)) else (none)) = some r := H
              have A19 := Aside0.mk A190
              clear A190
              by_cases c20 : 0 < (l2.length : Int)
              · rw [if_pos c20] at H
                have c20b0 : decide (0 < (l2.length : Int)) = true := decide_eq_true c20
                have c20b1 : decide (0 < l2.length) = true := decide_eq_true (by omega)
                clear c20
                by_cases c21 : 1 < (l2.length : Int)
                · rw [if_pos c21] at H
                  have c21b0 : decide (1 < (l2.length : Int)) = true := decide_eq_true c21
                  have c21b1 : decide (1 < l2.length) = true := decide_eq_true (by omega)
                  clear c21
                  replace H := Option.bind_eq_some_iff.mp H
                  obtain ⟨⟨t327, t328⟩, A220, H⟩ := H
                  replace H : ((zigguratref01_Sub.f k t319 t322).bind fun bt331 => ((nat_Low.f k t319).bind fun bt335 => ((zigguratref01_Low.f k t319).bind fun bt337 => ((zigguratref01_Same.f k t327 bt331.1).bind fun t339 => (if t339 = true then (if (t328 == bt331.2) = true then (if bt335.1 = bt337.1 then (if (bt335.2 == bt337.2) = true then ((nat_Add.f k t319 t322).bind fun t340 => ((zigguratref01_Add.f k t319 t322).bind fun t343 => ((zigguratref01_Same.f k t340 t343).bind fun t346 => (if t346 = true then ((nat_Cmp.f k t319 t322).bind fun t347 => ((zigguratref01_Cmp.f k t319 t322).bind fun t348 => (if t347 = t348 then ((nat_Bits.f t319).bind fun t349 => ((zigguratref01_Bits.f k t319).bind fun t350 => (if t349 = t350 then ((nat_Bit.f t319 (wrap64 ((Int.tmod (wrap64 (rd l2 1)) 2100) - 50))).bind fun t351 => ((zigguratref01_Bit.f k t319 (wrap64 ((Int.tmod (wrap64 (rd l2 1)) 2100) - 50))).bind fun t352 => (if t351 = t352 then ((nat_Shl.f k t319 (Int.tmod (wrap64 (rd l2 0)) 2001)).bind fun t353 => ((zigguratref01_Shl.f k t319 (Int.tmod (wrap64 (rd l2 0)) 2001)).bind fun t356 => ((zigguratref01_Same.f k t353 t356).bind fun t359 => (if t359 = true then ((nat_Shr.f k t319 (Int.tmod (wrap64 (rd l2 0)) 2001)).bind fun t360 => ((zigguratref01_Shr.f k t319 (Int.tmod (wrap64 (rd l2 0)) 2001)).bind fun t363 => ((zigguratref01_Same.f k t360 t363).bind fun t366 => (if t366 = true then (some t307) else (none))))) else (none))))) else (none)))) else (none)))) else (none)))) else (none))))) else (none)) else (none)) else (none)) else (none)))))) = some r := H
                  have A22 := Aside0.mk A220
                  clear A220
                  replace H := Option.bind_eq_some_iff.mp H
                  obtain ⟨⟨t331, t332⟩, A230, H⟩ := H
                  replace H : ((nat_Low.f k t319).bind fun bt335 => ((zigguratref01_Low.f k t319).bind fun bt337 => ((zigguratref01_Same.f k t327 t331).bind fun t339 => (if t339 = true then (if (t328 == t332) = true then (if bt335.1 = bt337.1 then (if (bt335.2 == bt337.2) = true then ((nat_Add.f k t319 t322).bind fun t340 => ((zigguratref01_Add.f k t319 t322).bind fun t343 => ((zigguratref01_Same.f k t340 t343).bind fun t346 => (if t346 = true then ((nat_Cmp.f k t319 t322).bind fun t347 => ((zigguratref01_Cmp.f k t319 t322).bind fun t348 => (if t347 = t348 then ((nat_Bits.f t319).bind fun t349 => ((zigguratref01_Bits.f k t319).bind fun t350 => (if t349 = t350 then ((nat_Bit.f t319 (wrap64 ((Int.tmod (wrap64 (rd l2 1)) 2100) - 50))).bind fun t351 => ((zigguratref01_Bit.f k t319 (wrap64 ((Int.tmod (wrap64 (rd l2 1)) 2100) - 50))).bind fun t352 => (if t351 = t352 then ((nat_Shl.f k t319 (Int.tmod (wrap64 (rd l2 0)) 2001)).bind fun t353 => ((zigguratref01_Shl.f k t319 (Int.tmod (wrap64 (rd l2 0)) 2001)).bind fun t356 => ((zigguratref01_Same.f k t353 t356).bind fun t359 => (if t359 = true then ((nat_Shr.f k t319 (Int.tmod (wrap64 (rd l2 0)) 2001)).bind fun t360 => ((zigguratref01_Shr.f k t319 (Int.tmod (wrap64 (rd l2 0)) 2001)).bind fun t363 => ((zigguratref01_Same.f k t360 t363).bind fun t366 => (if t366 = true then (some t307) else (none))))) else (none))))) else (none)))) else (none)))) else (none)))) else (none))))) else (none)) else (none)) else (none)) else (none))))) = some r := H
                  have A23 := Aside0.mk A230
                  clear A230
                  replace H := Option.bind_eq_some_iff.mp H
                  obtain ⟨⟨t335, t336⟩, A240, H⟩ := H
                  replace H : ((zigguratref01_Low.f k t319).bind fun bt337 => ((zigguratref01_Same.f k t327 t331).bind fun t339 => (if t339 = true then (if (t328 == t332) = true then (if t335 = bt337.1 then (if (t336 == bt337.2) = true then ((nat_Add.f k t319 t322).bind fun t340 => ((zigguratref01_Add.f k t319 t322).bind fun t343 => ((zigguratref01_Same.f k t340 t343).bind fun t346 => (if t346 = true then ((nat_Cmp.f k t319 t322).bind fun t347 => ((zigguratref01_Cmp.f k t319 t322).bind fun t348 => (if t347 = t348 then ((nat_Bits.f t319).bind fun t349 => ((zigguratref01_Bits.f k t319).bind fun t350 => (if t349 = t350 then ((nat_Bit.f t319 (wrap64 ((Int.tmod (wrap64 (rd l2 1)) 2100) - 50))).bind fun t351 => ((zigguratref01_Bit.f k t319 (wrap64 ((Int.tmod (wrap64 (rd l2 1)) 2100) - 50))).bind fun t352 => (if t351 = t352 then ((nat_Shl.f k t319 (Int.tmod (wrap64 (rd l2 0)) 2001)).bind fun t353 => ((zigguratref01_Shl.f k t319 (Int.tmod (wrap64 (rd l2 0)) 2001)).bind fun t356 => ((zigguratref01_Same.f k t353 t356).bind fun t359 => (if t359 = true then ((nat_Shr.f k t319 (Int.tmod (wrap64 (rd l2 0)) 2001)).bind fun t360 => ((zigguratref01_Shr.f k t319 (Int.tmod (wrap64 (rd l2 0)) 2001)).bind fun t363 => ((zigguratref01_Same.f k t360 t363).bind fun t366 => (if t366 = true then (some t307) else (none))))) else (none))))) else (none)))) else (none)))) else (none)))) else (none))))) else (none)) else (none)) else (none)) else (none)))) = some r := H
                  have A24 := Aside0.mk A240
                  clear A240
                  replace H := Option.bind_eq_some_iff.mp H
                  obtain ⟨⟨t337, t338⟩, A250, H⟩ := H
                  replace H : ((zigguratref01_Same.f k t327 t331).bind fun t339 => (if t339 = true then (if (t328 == t332) = true then (if t335 = t337 then (if (t336 == t338) = true then ((nat_Add.f k t319 t322).bind fun t340 => ((zigguratref01_Add.f k t319 t322).bind fun t343 => ((zigguratref01_Same.f k t340 t343).bind fun t346 => (if t346 = true then ((nat_Cmp.f k t319 t322).bind fun t347 => ((zigguratref01_Cmp.f k t319 t322).bind fun t348 => (if t347 = t348 then ((nat_Bits.f t319).bind fun t349 => ((zigguratref01_Bits.f k t319).bind fun t350 => (if t349 = t350 then ((nat_Bit.f t319 (wrap64 ((Int.tmod (wrap64 (rd l2 1)) 2100) - 50))).bind fun t351 => ((zigguratref01_Bit.f k t319 (wrap64 ((Int.tmod (wrap64 (rd l2 1)) 2100) - 50))).bind fun t352 => (if t351 = t352 then ((nat_Shl.f k t319 (Int.tmod (wrap64 (rd l2 0)) 2001)).bind fun t353 => ((zigguratref01_Shl.f k t319 (Int.tmod (wrap64 (rd l2 0)) 2001)).bind fun t356 => ((zigguratref01_Same.f k t353 t356).bind fun t359 => (if t359 = true then ((nat_Shr.f k t319 (Int.tmod (wrap64 (rd l2 0)) 2001)).bind fun t360 => ((zigguratref01_Shr.f k t319 (Int.tmod (wrap64 (rd l2 0)) 2001)).bind fun t363 => ((zigguratref01_Same.f k t360 t363).bind fun t366 => (if t366 = true then (some t307) else (none))))) else (none))))) else (none)))) else (none)))) else (none)))) else (none))))) else (none)) else (none)) else (none)) else (none))) = some r := H
                  have A25 := Aside0.mk A250
                  clear A250
                  replace H := Option.bind_eq_some_iff.mp H
                  obtain ⟨t339, A260, H⟩ := H
                  replace H : (if t339 = true then (if (t328 == t332) = true then (if t335 = t337 then (if (t336 == t338) = true then ((nat_Add.f k t319 t322).bind fun t340 => ((zigguratref01_Add.f k t319 t322).bind fun t343 => ((zigguratref01_Same.f k t340 t343).bind fun t346 => (if t346 = true then ((nat_Cmp.f k t319 t322).bind fun t347 => ((zigguratref01_Cmp.f k t319 t322).bind fun t348 => (if t347 = t348 then ((nat_Bits.f t319).bind fun t349 => ((zigguratref01_Bits.f k t319).bind fun t350 => (if t349 = t350 then ((nat_Bit.f t319 (wrap64 ((Int.tmod (wrap64 (rd l2 1)) 2100) - 50))).bind fun t351 => ((zigguratref01_Bit.f k t319 (wrap64 ((Int.tmod (wrap64 (rd l2 1)) 2100) - 50))).bind fun t352 => (if t351 = t352 then ((nat_Shl.f k t319 (Int.tmod (wrap64 (rd l2 0)) 2001)).bind fun t353 => ((zigguratref01_Shl.f k t319 (Int.tmod (wrap64 (rd l2 0)) 2001)).bind fun t356 => ((zigguratref01_Same.f k t353 t356).bind fun t359 => (if t359 = true then ((nat_Shr.f k t319 (Int.tmod (wrap64 (rd l2 0)) 2001)).bind fun t360 => ((zigguratref01_Shr.f k t319 (Int.tmod (wrap64 (rd l2 0)) 2001)).bind fun t363 => ((zigguratref01_Same.f k t360 t363).bind fun t366 => (if t366 = true then (some t307) else (none))))) else (none))))) else (none)))) else (none)))) else (none)))) else (none))))) else (none)) else (none)) else (none)) else (none)) = some r := H
                  have A26 := Aside0.mk A260
                  clear A260
                  by_cases c27 : t339 = true
                  · subst c27
                    have H1 : (if (t328 == t332) = true then (if t335 = t337 then (if (t336 == t338) = true then ((nat_Add.f k t319 t322).bind fun t340 => ((zigguratref01_Add.f k t319 t322).bind fun t343 => ((zigguratref01_Same.f k t340 t343).bind fun t346 => (if t346 = true then ((nat_Cmp.f k t319 t322).bind fun t347 => ((zigguratref01_Cmp.f k t319 t322).bind fun t348 => (if t347 = t348 then ((nat_Bits.f t319).bind fun t349 => ((zigguratref01_Bits.f k t319).bind fun t350 => (if t349 = t350 then ((nat_Bit.f t319 (wrap64 ((Int.tmod (wrap64 (rd l2 1)) 2100) - 50))).bind fun t351 => ((zigguratref01_Bit.f k t319 (wrap64 ((Int.tmod (wrap64 (rd l2 1)) 2100) - 50))).bind fun t352 => (if t351 = t352 then ((nat_Shl.f k t319 (Int.tmod (wrap64 (rd l2 0)) 2001)).bind fun t353 => ((zigguratref01_Shl.f k t319 (Int.tmod (wrap64 (rd l2 0)) 2001)).bind fun t356 => ((zigguratref01_Same.f k t353 t356).bind fun t359 => (if t359 = true then ((nat_Shr.f k t319 (Int.tmod (wrap64 (rd l2 0)) 2001)).bind fun t360 => ((zigguratref01_Shr.f k t319 (Int.tmod (wrap64 (rd l2 0)) 2001)).bind fun t363 => ((zigguratref01_Same.f k t360 t363).bind fun t366 => (if t366 = true then (some t307) else (none))))) else (none))))) else (none)))) else (none)))) else (none)))) else (none))))) else (none)) else (none)) else (none)) = some r := by rw [if_pos rfl] at H; exact H
                    clear H
                    have H := H1
                    clear H1
                    by_cases c28 : (t328 == t332) = true
                    · rw [if_pos c28] at H
                      have c28b0 : (t328 == t332) = true := c28
                      (try (have c28b1 : decide (t328 = t332) = true := by simpa using c28))
                      (try (have c28b2 : (t328 == t332) = true := by simpa using c28))
                      clear c28
                      by_cases c29 : t335 = t337
                      · rw [if_pos c29] at H
                        have c29b0 : (t335 == t337) = true := beq_iff_eq.mpr c29
                        have c29b1 : (t335 != t337) = false := bne_eq_false_iff_eq.mpr c29
                        clear c29
                        by_cases c30 : (t336 == t338) = true
                        · rw [if_pos c30] at H
                          have c30b0 : (t336 == t338) = true := c30
                          (try (have c30b1 : decide (t336 = t338) = true := by simpa using c30))
                          (try (have c30b2 : (t336 == t338) = true := by simpa using c30))
                          clear c30
                          replace H := Option.bind_eq_some_iff.mp H
                          obtain ⟨t340, A310, H⟩ := H
                          replace H : ((zigguratref01_Add.f k t319 t322).bind fun t343 => ((zigguratref01_Same.f k t340 t343).bind fun t346 => (if t346 = true then ((nat_Cmp.f k t319 t322).bind fun t347 => ((zigguratref01_Cmp.f k t319 t322).bind fun t348 => (if t347 = t348 then ((nat_Bits.f t319).bind fun t349 => ((zigguratref01_Bits.f k t319).bind fun t350 => (if t349 = t350 then ((nat_Bit.f t319 (wrap64 ((Int.tmod (wrap64 (rd l2 1)) 2100) - 50))).bind fun t351 => ((zigguratref01_Bit.f k t319 (wrap64 ((Int.tmod (wrap64 (rd l2 1)) 2100) - 50))).bind fun t352 => (if t351 = t352 then ((nat_Shl.f k t319 (Int.tmod (wrap64 (rd l2 0)) 2001)).bind fun t353 => ((zigguratref01_Shl.f k t319 (Int.tmod (wrap64 (rd l2 0)) 2001)).bind fun t356 => ((zigguratref01_Same.f k t353 t356).bind fun t359 => (if t359 = true then ((nat_Shr.f k t319 (Int.tmod (wrap64 (rd l2 0)) 2001)).bind fun t360 => ((zigguratref01_Shr.f k t319 (Int.tmod (wrap64 (rd l2 0)) 2001)).bind fun t363 => ((zigguratref01_Same.f k t360 t363).bind fun t366 => (if t366 = true then (some t307) else (none))))) else (none))))) else (none)))) else (none)))) else (none)))) else (none)))) = some r := H
                          have A31 := Aside0.mk A310
                          clear A310
                          replace H := Option.bind_eq_some_iff.mp H
                          obtain ⟨t343, A320, H⟩ := H
                          replace H : ((zigguratref01_Same.f k t340 t343).bind fun t346 => (if t346 = true then ((nat_Cmp.f k t319 t322).bind fun t347 => ((zigguratref01_Cmp.f k t319 t322).bind fun t348 => (if t347 = t348 then ((nat_Bits.f t319).bind fun t349 => ((zigguratref01_Bits.f k t319).bind fun t350 => (if t349 = t350 then ((nat_Bit.f t319 (wrap64 ((Int.tmod (wrap64 (rd l2 1)) 2100) - 50))).bind fun t351 => ((zigguratref01_Bit.f k t319 (wrap64 ((Int.tmod (wrap64 (rd l2 1)) 2100) - 50))).bind fun t352 => (if t351 = t352 then ((nat_Shl.f k t319 (Int.tmod (wrap64 (rd l2 0)) 2001)).bind fun t353 => ((zigguratref01_Shl.f k t319 (Int.tmod (wrap64 (rd l2 0)) 2001)).bind fun t356 => ((zigguratref01_Same.f k t353 t356).bind fun t359 => (if t359 = true then ((nat_Shr.f k t319 (Int.tmod (wrap64 (rd l2 0)) 2001)).bind fun t360 => ((zigguratref01_Shr.f k t319 (Int.tmod (wrap64 (rd l2 0)) 2001)).bind fun t363 => ((zigguratref01_Same.f k t360 t363).bind fun t366 => (if t366 = true then (some t307) else (none))))) else (none))))) else (none)))) else (none)))) else (none)))) else (none))) = some r := H
                          have A32 := Aside0.mk A320
                          clear A320
                          replace H := Option.bind_eq_some_iff.mp H
                          obtain ⟨t346, A330, H⟩ := H
                          replace H : (if t346 = true then ((nat_Cmp.f k t319 t322).bind fun t347 => ((zigguratref01_Cmp.f k t319 t322).bind fun t348 => (if t347 = t348 then ((nat_Bits.f t319).bind fun t349 => ((zigguratref01_Bits.f k t319).bind fun t350 => (if t349 = t350 then ((nat_Bit.f t319 (wrap64 ((Int.tmod (wrap64 (rd l2 1)) 2100) - 50))).bind fun t351 => ((zigguratref01_Bit.f k t319 (wrap64 ((Int.tmod (wrap64 (rd l2 1)) 2100) - 50))).bind fun t352 => (if t351 = t352 then ((nat_Shl.f k t319 (Int.tmod (wrap64 (rd l2 0)) 2001)).bind fun t353 => ((zigguratref01_Shl.f k t319 (Int.tmod (wrap64 (rd l2 0)) 2001)).bind fun t356 => ((zigguratref01_Same.f k t353 t356).bind fun t359 => (if t359 = true then ((nat_Shr.f k t319 (Int.tmod (wrap64 (rd l2 0)) 2001)).bind fun t360 => ((zigguratref01_Shr.f k t319 (Int.tmod (wrap64 (rd l2 0)) 2001)).bind fun t363 => ((zigguratref01_Same.f k t360 t363).bind fun t366 => (if t366 = true then (some t307) else (none))))) else (none))))) else (none)))) else (none)))) else (none)))) else (none)) = some r := H
                          have A33 := Aside0.mk A330
                          clear A330
                          by_cases c34 : t346 = true
                          · subst c34
                            have H1 : ((nat_Cmp.f k t319 t322).bind fun t347 => ((zigguratref01_Cmp.f k t319 t322).bind fun t348 => (if t347 = t348 then ((nat_Bits.f t319).bind fun t349 => ((zigguratref01_Bits.f k t319).bind fun t350 => (if t349 = t350 then ((nat_Bit.f t319 (wrap64 ((Int.tmod (wrap64 (rd l2 1)) 2100) - 50))).bind fun t351 => ((zigguratref01_Bit.f k t319 (wrap64 ((Int.tmod (wrap64 (rd l2 1)) 2100) - 50))).bind fun t352 => (if t351 = t352 then ((nat_Shl.f k t319 (Int.tmod (wrap64 (rd l2 0)) 2001)).bind fun t353 => ((zigguratref01_Shl.f k t319 (Int.tmod (wrap64 (rd l2 0)) 2001)).bind fun t356 => ((zigguratref01_Same.f k t353 t356).bind fun t359 => (if t359 = true then ((nat_Shr.f k t319 (Int.tmod (wrap64 (rd l2 0)) 2001)).bind fun t360 => ((zigguratref01_Shr.f k t319 (Int.tmod (wrap64 (rd l2 0)) 2001)).bind fun t363 => ((zigguratref01_Same.f k t360 t363).bind fun t366 => (if t366 = true then (some t307) else (none))))) else (none))))) else (none)))) else (none)))) else (none)))) = some r := by rw [if_pos rfl] at H; exact H
                            clear H
                            have H := H1
                            clear H1
                            replace H := Option.bind_eq_some_iff.mp H
                            obtain ⟨t347, A350, H⟩ := H
                            replace H : ((zigguratref01_Cmp.f k t319 t322).bind fun t348 => (if t347 = t348 then ((nat_Bits.f t319).bind fun t349 => ((zigguratref01_Bits.f k t319).bind fun t350 => (if t349 = t350 then ((nat_Bit.f t319 (wrap64 ((Int.tmod (wrap64 (rd l2 1)) 2100) - 50))).bind fun t351 => ((zigguratref01_Bit.f k t319 (wrap64 ((Int.tmod (wrap64 (rd l2 1)) 2100) - 50))).bind fun t352 => (if t351 = t352 then ((nat_Shl.f k t319 (Int.tmod (wrap64 (rd l2 0)) 2001)).bind fun t353 => ((zigguratref01_Shl.f k t319 (Int.tmod (wrap64 (rd l2 0)) 2001)).bind fun t356 => ((zigguratref01_Same.f k t353 t356).bind fun t359 => (if t359 = true then ((nat_Shr.f k t319 (Int.tmod (wrap64 (rd l2 0)) 2001)).bind fun t360 => ((zigguratref01_Shr.f k t319 (Int.tmod (wrap64 (rd l2 0)) 2001)).bind fun t363 => ((zigguratref01_Same.f k t360 t363).bind fun t366 => (if t366 = true then (some t307) else (none))))) else (none))))) else (none)))) else (none)))) else (none))) = some r := H
                            have A35 := Aside0.mk A350
                            clear A350
                            replace H := Option.bind_eq_some_iff.mp H
                            obtain ⟨t348, A360, H⟩ := H
                            replace H : (if t347 = t348 then ((nat_Bits.f t319).bind fun t349 => ((zigguratref01_Bits.f k t319).bind fun t350 => (if t349 = t350 then ((nat_Bit.f t319 (wrap64 ((Int.tmod (wrap64 (rd l2 1)) 2100) - 50))).bind fun t351 => ((zigguratref01_Bit.f k t319 (wrap64 ((Int.tmod (wrap64 (rd l2 1)) 2100) - 50))).bind fun t352 => (if t351 = t352 then ((nat_Shl.f k t319 (Int.tmod (wrap64 (rd l2 0)) 2001)).bind fun t353 => ((zigguratref01_Shl.f k t319 (Int.tmod (wrap64 (rd l2 0)) 2001)).bind fun t356 => ((zigguratref01_Same.f k t353 t356).bind fun t359 => (if t359 = true then ((nat_Shr.f k t319 (Int.tmod (wrap64 (rd l2 0)) 2001)).bind fun t360 => ((zigguratref01_Shr.f k t319 (Int.tmod (wrap64 (rd l2 0)) 2001)).bind fun t363 => ((zigguratref01_Same.f k t360 t363).bind fun t366 => (if t366 = true then (some t307) else (none))))) else (none))))) else (none)))) else (none)))) else (none)) = some r := H
                            have A36 := Aside0.mk A360
                            clear A360
                            by_cases c37 : t347 = t348
                            · rw [if_pos c37] at H
                              have c37b0 : (t347 == t348) = true := beq_iff_eq.mpr c37
                              have c37b1 : (t347 != t348) = false := bne_eq_false_iff_eq.mpr c37
                              clear c37
                              replace H := Option.bind_eq_some_iff.mp H
                              obtain ⟨t349, A380, H⟩ := H
                              replace H : ((zigguratref01_Bits.f k t319).bind fun t350 => (if t349 = t350 then ((nat_Bit.f t319 (wrap64 ((Int.tmod (wrap64 (rd l2 1)) 2100) - 50))).bind fun t351 => ((zigguratref01_Bit.f k t319 (wrap64 ((Int.tmod (wrap64 (rd l2 1)) 2100) - 50))).bind fun t352 => (if t351 = t352 then ((nat_Shl.f k t319 (Int.tmod (wrap64 (rd l2 0)) 2001)).bind fun t353 => ((zigguratref01_Shl.f k t319 (Int.tmod (wrap64 (rd l2 0)) 2001)).bind fun t356 => ((zigguratref01_Same.f k t353 t356).bind fun t359 => (if t359 = true then ((nat_Shr.f k t319 (Int.tmod (wrap64 (rd l2 0)) 2001)).bind fun t360 => ((zigguratref01_Shr.f k t319 (Int.tmod (wrap64 (rd l2 0)) 2001)).bind fun t363 => ((zigguratref01_Same.f k t360 t363).bind fun t366 => (if t366 = true then (some t307) else (none))))) else (none))))) else (none)))) else (none))) = some r := H
                              have A38 := Aside0.mk A380
                              clear A380
                              replace H := Option.bind_eq_some_iff.mp H
                              obtain ⟨t350, A390, H⟩ := H
                              replace H : (if t349 = t350 then ((nat_Bit.f t319 (wrap64 ((Int.tmod (wrap64 (rd l2 1)) 2100) - 50))).bind fun t351 => ((zigguratref01_Bit.f k t319 (wrap64 ((Int.tmod (wrap64 (rd l2 1)) 2100) - 50))).bind fun t352 => (if t351 = t352 then ((nat_Shl.f k t319 (Int.tmod (wrap64 (rd l2 0)) 2001)).bind fun t353 => ((zigguratref01_Shl.f k t319 (Int.tmod (wrap64 (rd l2 0)) 2001)).bind fun t356 => ((zigguratref01_Same.f k t353 t356).bind fun t359 => (if t359 = true then ((nat_Shr.f k t319 (Int.tmod (wrap64 (rd l2 0)) 2001)).bind fun t360 => ((zigguratref01_Shr.f k t319 (Int.tmod (wrap64 (rd l2 0)) 2001)).bind fun t363 => ((zigguratref01_Same.f k t360 t363).bind fun t366 => (if t366 = true then (some t307) else (none))))) else (none))))) else (none)))) else (none)) = some r := H
                              have A39 := Aside0.mk A390
                              clear A390
                              by_cases c40 : t349 = t350
                              · rw [if_pos c40] at H
                                have c40b0 : (t349 == t350) = true := beq_iff_eq.mpr c40
                                have c40b1 : (t349 != t350) = false := bne_eq_false_iff_eq.mpr c40
                                clear c40
                                replace H := Option.bind_eq_some_iff.mp H
                                obtain ⟨t351, A410, H⟩ := H
                                replace H : ((zigguratref01_Bit.f k t319 (wrap64 ((Int.tmod (wrap64 (rd l2 1)) 2100) - 50))).bind fun t352 => (if t351 = t352 then ((nat_Shl.f k t319 (Int.tmod (wrap64 (rd l2 0)) 2001)).bind fun t353 => ((zigguratref01_Shl.f k t319 (Int.tmod (wrap64 (rd l2 0)) 2001)).bind fun t356 => ((zigguratref01_Same.f k t353 t356).bind fun t359 => (if t359 = true then ((nat_Shr.f k t319 (Int.tmod (wrap64 (rd l2 0)) 2001)).bind fun t360 => ((zigguratref01_Shr.f k t319 (Int.tmod (wrap64 (rd l2 0)) 2001)).bind fun t363 => ((zigguratref01_Same.f k t360 t363).bind fun t366 => (if t366 = true then (some t307) else (none))))) else (none))))) else (none))) = some r := H
                                have A41 := Aside0.mk A410
                                clear A410
                                replace H := Option.bind_eq_some_iff.mp H
                                obtain ⟨t352, A420, H⟩ := H
                                replace H : (if t351 = t352 then ((nat_Shl.f k t319 (Int.tmod (wrap64 (rd l2 0)) 2001)).bind fun t353 => ((zigguratref01_Shl.f k t319 (Int.tmod (wrap64 (rd l2 0)) 2001)).bind fun t356 => ((zigguratref01_Same.f k t353 t356).bind fun t359 => (if t359 = true then ((nat_Shr.f k t319 (Int.tmod (wrap64 (rd l2 0)) 2001)).bind fun t360 => ((zigguratref01_Shr.f k t319 (Int.tmod (wrap64 (rd l2 0)) 2001)).bind fun t363 => ((zigguratref01_Same.f k t360 t363).bind fun t366 => (if t366 = true then (some t307) else (none))))) else (none))))) else (none)) = some r := H
                                have A42 := Aside0.mk A420
                                clear A420
                                by_cases c43 : t351 = t352
                                · rw [if_pos c43] at H
                                  have c43b0 : (t351 == t352) = true := beq_iff_eq.mpr c43
                                  have c43b1 : (t351 != t352) = false := bne_eq_false_iff_eq.mpr c43
                                  clear c43
                                  replace H := Option.bind_eq_some_iff.mp H
                                  obtain ⟨t353, A440, H⟩ := H
                                  replace H : ((zigguratref01_Shl.f k t319 (Int.tmod (wrap64 (rd l2 0)) 2001)).bind fun t356 => ((zigguratref01_Same.f k t353 t356).bind fun t359 => (if t359 = true then ((nat_Shr.f k t319 (Int.tmod (wrap64 (rd l2 0)) 2001)).bind fun t360 => ((zigguratref01_Shr.f k t319 (Int.tmod (wrap64 (rd l2 0)) 2001)).bind fun t363 => ((zigguratref01_Same.f k t360 t363).bind fun t366 => (if t366 = true then (some t307) else (none))))) else (none)))) = some r := H
                                  have A44 := Aside0.mk A440
                                  clear A440
                                  replace H := Option.bind_eq_some_iff.mp H
                                  obtain ⟨t356, A450, H⟩ := H
                                  replace H : ((zigguratref01_Same.f k t353 t356).bind fun t359 => (if t359 = true then ((nat_Shr.f k t319 (Int.tmod (wrap64 (rd l2 0)) 2001)).bind fun t360 => ((zigguratref01_Shr.f k t319 (Int.tmod (wrap64 (rd l2 0)) 2001)).bind fun t363 => ((zigguratref01_Same.f k t360 t363).bind fun t366 => (if t366 = true then (some t307) else (none))))) else (none))) = some r := H
                                  have A45 := Aside0.mk A450
                                  clear A450
                                  replace H := Option.bind_eq_some_iff.mp H
                                  obtain ⟨t359, A460, H⟩ := H
                                  replace H : (if t359 = true then ((nat_Shr.f k t319 (Int.tmod (wrap64 (rd l2 0)) 2001)).bind fun t360 => ((zigguratref01_Shr.f k t319 (Int.tmod (wrap64 (rd l2 0)) 2001)).bind fun t363 => ((zigguratref01_Same.f k t360 t363).bind fun t366 => (if t366 = true then (some t307) else (none))))) else (none)) = some r := H
                                  have A46 := Aside0.mk A460
                                  clear A460
                                  by_cases c47 : t359 = true
                                  · subst c47
                                    have H1 : ((nat_Shr.f k t319 (Int.tmod (wrap64 (rd l2 0)) 2001)).bind fun t360 => ((zigguratref01_Shr.f k t319 (Int.tmod (wrap64 (rd l2 0)) 2001)).bind fun t363 => ((zigguratref01_Same.f k t360 t363).bind fun t366 => (if t366 = true then (some t307) else (none))))) = some r := by rw [if_pos rfl] at H; exact H
                                    clear H
                                    have H := H1
                                    clear H1
                                    replace H := Option.bind_eq_some_iff.mp H
                                    obtain ⟨t360, A480, H⟩ := H
                                    replace H : ((zigguratref01_Shr.f k t319 (Int.tmod (wrap64 (rd l2 0)) 2001)).bind fun t363 => ((zigguratref01_Same.f k t360 t363).bind fun t366 => (if t366 = true then (some t307) else (none)))) = some r := H
                                    have A48 := Aside0.mk A480
                                    clear A480
                                    replace H := Option.bind_eq_some_iff.mp H
                                    obtain ⟨t363, A490, H⟩ := H
                                    replace H : ((zigguratref01_Same.f k t360 t363).bind fun t366 => (if t366 = true then (some t307) else (none))) = some r := H
                                    have A49 := Aside0.mk A490
                                    clear A490
                                    replace H := Option.bind_eq_some_iff.mp H
                                    obtain ⟨t366, A500, H⟩ := H
                                    replace H : (if t366 = true then (some t307) else (none)) = some r := H
                                    have A50 := Aside0.mk A500
                                    clear A500
                                    by_cases c51 : t366 = true
                                    · subst c51
                                      have H1 : (some t307) = some r := by rw [if_pos rfl] at H; exact H
                                      clear H
                                      have H := H1
                                      clear H1
                                      obtain rfl := Option.some.inj H
                                      go_enter Try.func3, Try.ntmps3
                                      (try simp only [List.append])
                                      try go_wp2_with (first | ((with_reducible refine gate_callee (f := 12) rfl ?_); obtain ⟨hA_, hB_⟩ := box2t_ wz HLL.out; have hC0_ := Kd.C_alloc HR0.out (.cells #[.int .u16 b0, .int .u16 b1] 24); have hC1_ := Kd.C_alloc HR1.out (.cells #[.int .u16 b0, .int .u16 b1] 24); generalize (World.alloc wz (.cells #[.int .u16 b0, .int .u16 b1] 24)) = w at hA_ hB_ hC0_ hC1_ ⊢; generalize (some ⟨wz.heap.size, 0, none⟩ : Option Addr) = A2 at hA_ ⊢; clear HR0; have HR0 := Aside0.mk hC0_; clear hC0_; clear HR1; have HR1 := Aside0.mk hC1_; clear hC1_; have HR2 := Aside0.mk hA_; have HW := Aside0.mk hB_; clear hA_ hB_; have HB := Aside0.mk (Below.refl w.heap.size w); refine goesL_ (some 22) rfl rfl Try.func12 (by kernel_rfl) rfl #[] rfl (by (try simp only [List.map_toArray, List.map_cons, List.map_nil]); first | done | rfl | (simp only [List.length_drop, List.length_take]; rfl)) ?_; (with_reducible refine (zigguratlaw01_head.calls k  t307 _ A4.out).mono ?_); rintro e w52 ⟨rfl, hb⟩; refine ⟨_, rfl, ?_⟩; have n0_ := Aside0.mk (below_step (by repeat (first | (with_reducible first | exact HB.out | apply below_alloc | apply pw_below_drewN | apply below_drew1) | exact HB.out)) hb); clear HB; have HB := n0_; clear n0_; (try clear hb); (try clear hb2); (try clear hk); (try clear hi)))
                                      have n0_ := Aside0.mk (below_drew1 HB.out)
                                      clear HB
                                      have HB := n0_
                                      clear n0_
                                      obtain ⟨i054, hi054, _, hsz54, _⟩ := info_parts info37
                                      obtain ⟨hcut54, hA54, hC54⟩ := print_take_of (P := Try.prog) (Value.int .u32) 0 22 37 .i64 Try.underlying22 hi054 hsz54 A0 c0 l0 (ji5) (of_decide_eq_true (by first | (with_reducible assumption) | assumption)) (of_decide_eq_true (by first | (with_reducible assumption) | assumption)) HC0.out
                                      have HR308 := Aside0.mk (Kd.C_of_reads (h1 := fun _ => rfl) (hA54 _ (Kd.reads_of_C HR0.out)))
                                      have HC308 := Aside0.mk hC54
                                      clear hA54 hC54 hi054 hsz54
                                      obtain ⟨i055, hi055, _, hsz55, _⟩ := info_parts info37
                                      obtain ⟨hcut55, hA55, hC55⟩ := print_take_of (P := Try.prog) (Value.int .u32) 0 22 37 .i64 Try.underlying22 hi055 hsz55 A1 c1 l1 (ji8) (of_decide_eq_true (by first | (with_reducible assumption) | assumption)) (of_decide_eq_true (by first | (with_reducible assumption) | assumption)) HC1.out
                                      have HR309 := Aside0.mk (Kd.C_of_reads (h1 := fun _ => rfl) (hA55 _ (Kd.reads_of_C HR1.out)))
                                      have HC309 := Aside0.mk hC55
                                      clear hA55 hC55 hi055 hsz55
                                      refine start_ (n := 12) (S := fun w' => True) (ds := []) #[false, false, false, false, false, false, false, false, false, false, false, false] (by kernel_rfl) rfl rfl trivial (fun hHeld => ?_); refine with_tabW zigguratlaw01_NatTells.tab2 zigguratlaw01_NatTells.bits2 (fun HT_ HW_ => ?_)
                                      generalize w52.drew = w53 at HB HR308 HR309 hHeld ⊢
                                      refine pure_ (i := 0) (N := some 23) (v := ?_) (a' := ?_) #[true, false, false, false, false, false, false, false, false, false, false, false] rfl rfl (any_of HT_.out (by kernel_rfl)) (fun _ _ _ h => h) (Or.inl ⟨by rfl, ?_⟩) ?_ ?_
                                      rotate_left
                                      · intro w'
                                        go_simp
                                        with_reducible rfl
                                      rotate_left
                                      · simp only [Act.put, List.setIfInBounds_toArray, List.set_cons_zero, List.set_cons_succ, i64_w, i32_w]
                                        rfl
                                      refine pure_ (i := 1) (N := some 24) (v := ?_) (a' := ?_) #[true, true, false, false, false, false, false, false, false, false, false, false] rfl rfl (any_of HT_.out (by kernel_rfl)) (fun _ _ _ h => h) (Or.inl ⟨by rfl, ?_⟩) ?_ ?_
                                      rotate_left
                                      · intro w'
                                        go_simp
                                        with_reducible rfl
                                      rotate_left
                                      · simp only [Act.put, List.setIfInBounds_toArray, List.set_cons_zero, List.set_cons_succ, i64_w, i32_w]
                                        rfl
                                      refine pure_ (i := 2) (N := some 25) (v := ?_) (a' := ?_) #[true, true, true, false, false, false, false, false, false, false, false, false] rfl rfl (any_of HT_.out (by kernel_rfl)) (fun _ _ _ h => h) (Or.inl ⟨by rfl, ?_⟩) ?_ ?_
                                      rotate_left
                                      · intro w'
                                        go_simp
                                        with_reducible rfl
                                      rotate_left
                                      · simp only [Act.put, List.setIfInBounds_toArray, List.set_cons_zero, List.set_cons_succ, i64_w, i32_w]
                                        rfl
                                      refine pure_ (i := 3) (N := some 26) (v := ?_) (a' := ?_) #[true, true, true, true, false, false, false, false, false, false, false, false] rfl rfl (any_of HT_.out (by kernel_rfl)) (fun _ _ _ h => h) (Or.inl ⟨by rfl, ?_⟩) ?_ ?_
                                      rotate_left
                                      · intro w'
                                        go_simp
                                        with_reducible rfl
                                      rotate_left
                                      · simp only [Act.put, List.setIfInBounds_toArray, List.set_cons_zero, List.set_cons_succ, i64_w, i32_w]
                                        rfl
                                      refine pure_ (i := 4) (N := some 27) (v := ?_) (a' := ?_) #[true, true, true, true, true, false, false, false, false, false, false, false] rfl rfl (any_of HT_.out (by kernel_rfl)) (fun _ _ _ h => h) (Or.inl ⟨by rfl, ?_⟩) ?_ ?_
                                      rotate_left
                                      · intro w'
                                        go_simp
                                        with_reducible rfl
                                      rotate_left
                                      · simp only [Act.put, List.setIfInBounds_toArray, List.set_cons_zero, List.set_cons_succ, i64_w, i32_w]
                                        rfl
                                      refine pure_ (i := 5) (N := some 28) (v := ?_) (a' := ?_) #[true, true, true, true, true, true, false, false, false, false, false, false] rfl rfl (any_of HT_.out (by kernel_rfl)) (fun _ _ _ h => h) (Or.inl ⟨by rfl, ?_⟩) ?_ ?_
                                      rotate_left
                                      · intro w'
                                        go_simp
                                        with_reducible rfl
                                      rotate_left
                                      · simp only [Act.put, List.setIfInBounds_toArray, List.set_cons_zero, List.set_cons_succ, i64_w, i32_w]
                                        rfl
                                      refine pure_ (i := 6) (N := some 29) (v := ?_) (a' := ?_) #[true, true, true, true, true, true, true, false, false, false, false, false] rfl rfl (any_of HT_.out (by kernel_rfl)) (fun _ _ _ h => h) (Or.inl ⟨by rfl, ?_⟩) ?_ ?_
                                      rotate_left
                                      · intro w'
                                        go_simp
                                        with_reducible rfl
                                      rotate_left
                                      · simp only [Act.put, List.setIfInBounds_toArray, List.set_cons_zero, List.set_cons_succ, i64_w, i32_w]
                                        rfl
                                      refine pure_ (i := 7) (N := some 30) (v := ?_) (a' := ?_) #[true, true, true, true, true, true, true, true, false, false, false, false] rfl rfl (any_of HT_.out (by kernel_rfl)) (fun _ _ _ h => h) (Or.inl ⟨by rfl, ?_⟩) ?_ ?_
                                      rotate_left
                                      · intro w'
                                        go_simp
                                        with_reducible rfl
                                      rotate_left
                                      · simp only [Act.put, List.setIfInBounds_toArray, List.set_cons_zero, List.set_cons_succ, i64_w, i32_w]
                                        rfl
                                      refine pure_ (i := 8) (N := some 31) (v := ?_) (a' := ?_) #[true, true, true, true, true, true, true, true, true, false, false, false] rfl rfl (any_of HT_.out (by kernel_rfl)) (fun _ _ _ h => h) (Or.inl ⟨by rfl, ?_⟩) ?_ ?_
                                      rotate_left
                                      · intro w'
                                        go_simp
                                        with_reducible rfl
                                      rotate_left
                                      · simp only [Act.put, List.setIfInBounds_toArray, List.set_cons_zero, List.set_cons_succ, i64_w, i32_w]
                                        rfl
                                      refine pure_ (i := 9) (N := some 32) (v := ?_) (a' := ?_) #[true, true, true, true, true, true, true, true, true, true, false, false] rfl rfl (any_of HT_.out (by kernel_rfl)) (fun _ _ _ h => h) (Or.inl ⟨by rfl, ?_⟩) ?_ ?_
                                      rotate_left
                                      · intro w'
                                        go_simp
                                        with_reducible rfl
                                      rotate_left
                                      · simp only [Act.put, List.setIfInBounds_toArray, List.set_cons_zero, List.set_cons_succ, i64_w, i32_w]
                                        rfl
                                      refine pure_ (i := 10) (N := some 8) (v := ?_) (a' := ?_) #[true, true, true, true, true, true, true, true, true, true, true, false] rfl rfl (any_of HT_.out (by kernel_rfl)) (fun _ _ _ h => h) (Or.inl ⟨by rfl, ?_⟩) ?_ ?_
                                      rotate_left
                                      · intro w'
                                        go_simp
                                        with_reducible rfl
                                      rotate_left
                                      · simp only [Act.put, List.setIfInBounds_toArray, List.set_cons_zero, List.set_cons_succ, i64_w, i32_w]
                                        rfl
                                      refine pure_ (i := 11) (N := some 9) (v := ?_) (a' := ?_) #[true, true, true, true, true, true, true, true, true, true, true, true] rfl rfl (any_of HT_.out (by kernel_rfl)) (fun _ _ _ h => h) (Or.inl ⟨by rfl, ?_⟩) ?_ ?_
                                      rotate_left
                                      · intro w'
                                        go_simp
                                        with_reducible rfl
                                      rotate_left
                                      · simp only [Act.put, List.setIfInBounds_toArray, List.set_cons_zero, List.set_cons_succ, i64_w, i32_w]
                                        rfl
                                      refine done_ (done_of HT_.out (by kernel_rfl)) ?_
                                      try go_wp2_with (first | ((with_reducible refine gate_callee (f := 13) rfl ?_); refine goesL_ (some 34) rfl rfl Try.func13 (by kernel_rfl) rfl #[.slice A0 (l0.take ((ji5) : Int).toNat).length c0] rfl (by (try simp only [List.map_toArray, List.map_cons, List.map_nil]); first | done | (rw [show (l0.take ((ji5) : Int).toNat).length = (ji5).toNat from (by rw [List.length_take]; have h_ : ((ji5) : Int) ≤ (l0.length : Int) := of_decide_eq_true (by first | (with_reducible assumption) | assumption); omega)] <;> rfl) | (simp only [hji5]; rfl) | rfl | (simp only [List.length_drop, List.length_take]; rfl)) ?_; (with_reducible refine (nat_Right.calls _ _ (l0.take ((ji5) : Int).toNat) t310 _ ?side1 ?side2 A11.out).mono ?_); (case side1 => repeat (first | exact (Kd.C_below HR308.out HB.out) | (with_reducible refine Kd.C_alloc ?_ _) | (with_reducible refine Kd.C_drewN ?_ _) | (with_reducible refine Kd.C_drew ?_))); (case side2 => exact HC308.out); rintro e w' ⟨rfl, ⟨nd, rfl⟩⟩; refine ⟨_, rfl, ?_⟩) | ((with_reducible refine gate_callee (f := 14) rfl ?_); refine goesL_ (some 36) rfl rfl Try.func14 (by kernel_rfl) rfl #[.slice A0 (l0.take ((ji5) : Int).toNat).length c0] rfl (by (try simp only [List.map_toArray, List.map_cons, List.map_nil]); first | done | (rw [show (l0.take ((ji5) : Int).toNat).length = (ji5).toNat from (by rw [List.length_take]; have h_ : ((ji5) : Int) ≤ (l0.length : Int) := of_decide_eq_true (by first | (with_reducible assumption) | assumption); omega)] <;> rfl) | (simp only [hji5]; rfl) | rfl | (simp only [List.length_drop, List.length_take]; rfl)) ?_; (with_reducible refine (zigguratref01_Right.calls _ _ (l0.take ((ji5) : Int).toNat) t311 _ ?side1 ?side2 A12.out).mono ?_); (case side1 => repeat (first | exact (Kd.C_below HR308.out (by repeat (first | (with_reducible first | exact HB.out | apply below_alloc | apply pw_below_drewN | apply below_drew1) | exact HB.out))) | (with_reducible refine Kd.C_alloc ?_ _) | (with_reducible refine Kd.C_drewN ?_ _) | (with_reducible refine Kd.C_drew ?_))); (case side2 => exact HC308.out); rintro e w' ⟨rfl, ⟨nd, rfl⟩⟩; refine ⟨_, rfl, ?_⟩) | (go_at_call 16; refine calls_of_args (args' := #[.slice A0 (l0.take ((ji5) : Int).toNat).length c0]) (by first | (rw [show (l0.take ((ji5) : Int).toNat).length = (ji5).toNat from (by rw [List.length_take]; have h_ : ((ji5) : Int) ≤ (l0.length : Int) := of_decide_eq_true (by first | (with_reducible assumption) | assumption); omega)] <;> rfl) | rfl) ?_; (with_reducible refine (nat_Make.calls k _ _ (l0.take ((ji5) : Int).toNat) t312 _ ?side1 ?side2 A14.out).mono ?_); (case side1 => repeat (first | exact (Kd.C_below HR308.out (by repeat (first | (with_reducible first | exact HB.out | apply below_alloc | apply pw_below_drewN | apply below_drew1) | exact HB.out))) | (with_reducible refine Kd.C_alloc ?_ _) | (with_reducible refine Kd.C_drewN ?_ _) | (with_reducible refine Kd.C_drew ?_))); (case side2 => exact HC308.out); rintro e w56 ⟨v313, rfl, ho0, hb⟩; have n0_ := Aside0.mk (Kd.R_lower ho0 (below_size (by repeat (first | (with_reducible first | exact HB.out | apply below_alloc | apply pw_below_drewN | apply below_drew1) | exact HB.out)))); have n1_ := Aside0.mk (below_step (by repeat (first | (with_reducible first | exact HB.out | apply below_alloc | apply pw_below_drewN | apply below_drew1) | exact HB.out)) hb); clear HB; have HO314 := n0_; have HB := n1_; clear n0_ n1_; (try clear hb); (try clear hb2); (try clear hk); (try clear hi); (try clear ho0)) | (go_at_call 17; refine calls_of_args (args' := #[.slice A0 (l0.take ((ji5) : Int).toNat).length c0]) (by first | (rw [show (l0.take ((ji5) : Int).toNat).length = (ji5).toNat from (by rw [List.length_take]; have h_ : ((ji5) : Int) ≤ (l0.length : Int) := of_decide_eq_true (by first | (with_reducible assumption) | assumption); omega)] <;> rfl) | rfl) ?_; (with_reducible refine (zigguratref01_Make.calls k _ _ (l0.take ((ji5) : Int).toNat) t315 _ ?side1 ?side2 A15.out).mono ?_); (case side1 => repeat (first | exact (Kd.C_below HR308.out HB.out) | (with_reducible refine Kd.C_alloc ?_ _) | (with_reducible refine Kd.C_drewN ?_ _) | (with_reducible refine Kd.C_drew ?_))); (case side2 => exact HC308.out); rintro e w57 ⟨v316, rfl, ho0, hb⟩; have n0_ := Aside0.mk (Kd.R_elder' (by (with_reducible repeat (first | apply Kd.R_alloc | apply Kd.R_drewN | apply Kd.R_drew)); exact HO314.out) (Kd.R_base ho0) hb); have n1_ := Aside0.mk (Kd.R_lower (Kd.R_new' ho0 (Kd.R_lt (by (with_reducible repeat (first | apply Kd.R_alloc | apply Kd.R_drewN | apply Kd.R_drew)); exact HO314.out))) (below_size (by repeat (first | (with_reducible first | exact HB.out | apply below_alloc | apply pw_below_drewN | apply below_drew1) | exact HB.out)))); have n2_ := Aside0.mk (below_step (by repeat (first | (with_reducible first | exact HB.out | apply below_alloc | apply pw_below_drewN | apply below_drew1) | exact HB.out)) hb); clear HO314; clear HB; have HO314 := n0_; have HO317 := n1_; have HB := n2_; clear n0_ n1_ n2_; (try clear hb); (try clear hb2); (try clear hk); (try clear hi); (try clear ho0); obtain ⟨Ao58, co58, eo58⟩ := Kd.R_slice HO314.out; subst eo58; obtain ⟨Ao59, co59, eo59⟩ := Kd.R_slice HO317.out; subst eo59) | (go_at_call 15; (with_reducible refine (zigguratref01_Same.calls k _ _ t312 _ _ t315 true _ ?side1 ?side2 ?side3 ?side4 A16.out).mono ?_); (case side1 => repeat (first | exact (Kd.R_reads' HO314.out).2.2 | (with_reducible refine Kd.C_alloc ?_ _) | (with_reducible refine Kd.C_drewN ?_ _) | (with_reducible refine Kd.C_drew ?_))); (case side2 => exact (Kd.R_reads' HO314.out).2.1); (case side3 => repeat (first | exact (Kd.R_reads' HO317.out).2.2 | (with_reducible refine Kd.C_alloc ?_ _) | (with_reducible refine Kd.C_drewN ?_ _) | (with_reducible refine Kd.C_drew ?_))); (case side4 => exact (Kd.R_reads' HO317.out).2.1); rintro e w' ⟨rfl, ⟨nd, rfl⟩⟩))
                                      (try (rw [drewN_self w57]; generalize hq_ : World.drewN w57 _ = w57; have n0_ : Aside0 (Kd.R (Kd.int .u32) 37 w57 w.heap.size (fun k_ => some k_ ≠ (.slice Ao59 t315.length co59 : Value).ownBlock) (.slice Ao58 t312.length co58) t312) := ⟨by rw [← hq_]; exact (by (with_reducible repeat (first | apply Kd.R_alloc | apply Kd.R_drewN | apply Kd.R_drew)); exact Kd.R_mono HO314.out (fun _ hk => hk.2))⟩; have n1_ : Aside0 (Kd.R (Kd.int .u32) 37 w57 w.heap.size (fun k_ => some k_ ≠ (.slice Ao58 t312.length co58 : Value).ownBlock) (.slice Ao59 t315.length co59) t315) := ⟨by rw [← hq_]; exact (by (with_reducible repeat (first | apply Kd.R_alloc | apply Kd.R_drewN | apply Kd.R_drew)); exact Kd.R_mono HO317.out (fun _ hk => hk.2))⟩; have n2_ : Aside0 (Below w.heap.size w w57) := ⟨by rw [← hq_]; exact (by repeat (first | (with_reducible first | exact HB.out | apply below_alloc | apply pw_below_drewN | apply below_drew1) | exact HB.out))⟩; clear HO314 HO317 HB hq_; have HO314 := n0_; have HO317 := n1_; have HB := n2_; clear n0_ n1_ n2_))
                                      have n0_ := Aside0.mk (Kd.R_drew HO314.out)
                                      have n1_ := Aside0.mk (Kd.R_drew HO317.out)
                                      have n2_ := Aside0.mk (below_drew1 HB.out)
                                      clear HO314
                                      clear HO317
                                      clear HB
                                      have HO314 := n0_
                                      have HO317 := n1_
                                      have HB := n2_
                                      clear n0_ n1_ n2_
                                      have p325 : 0 ≤ (0 : Int) := (by omega)
                                      have q325 : 0 < (l2.length : Int) := of_decide_eq_true (by first | (with_reducible assumption) | assumption)
                                      obtain ⟨ad325, e325, hx325_0⟩ := Kd.at_int HR2.out 0 p325 q325
                                      have hw325_0 := hx325_0
                                      (try rw [show ((0 : Int)).toNat = 0 from rfl] at hw325_0)
                                      (try rw [show 0 * 1 = 0 from rfl] at hw325_0)
                                      (try rw [Addr.add_zero'] at hw325_0)
                                      cases e325
                                      have qi325 : (0 < l2.length) = True := eq_true (by omega)
                                      (try rw [show ((0 : Int)).toNat = 0 from rfl] at hx325_0)
                                      (try rw [Addr.add_zero'] at hx325_0)
                                      replace hx325_0 := (HB.out.cell (World.block_lt_of_cell? w _ hx325_0)).trans hx325_0
                                      replace p325 := eq_true p325
                                      replace q325 := eq_true q325
                                      have p326 : 0 ≤ (1 : Int) := (by omega)
                                      have q326 : 1 < (l2.length : Int) := of_decide_eq_true (by first | (with_reducible assumption) | assumption)
                                      obtain ⟨ad326, e326, hx326_0⟩ := Kd.at_int HR2.out 1 p326 q326
                                      have hw326_0 := hx326_0
                                      (try rw [show ((1 : Int)).toNat = 1 from rfl] at hw326_0)
                                      (try rw [show 1 * 1 = 1 from rfl] at hw326_0)
                                      (try simp only [Nat.reduceMul, Nat.reduceEqDiff, Go.Addr.add, ↓reduceIte] at hw326_0)
                                      obtain rfl : ad325 = ad326 := (by injection e326)
                                      (try simp only [show (1 : Int).toNat = 1 from rfl, Nat.reduceMul, Nat.reduceEqDiff, Go.Addr.add, ↓reduceIte] at hx326_0)
                                      have qi326 : (1 < l2.length) = True := eq_true (by omega)
                                      (try rw [show ((1 : Int)).toNat = 1 from rfl] at hx326_0)
                                      replace hx326_0 := (HB.out.cell (World.block_lt_of_cell? w _ hx326_0)).trans hx326_0
                                      replace p326 := eq_true p326
                                      replace q326 := eq_true q326
                                      refine start_ (n := 17) (S := fun w' => w'.cell? ad325 = some (.int .u16 (rd l2 0)) ∧ w'.cell? ⟨ad325.block, ad325.off + 1, none⟩ = some (.int .u16 (rd l2 1))) (ds := []) #[false, false, false, false, false, false, false, false, false, false, false, false, false, false, false, false, false] (by kernel_rfl) rfl rfl ⟨((HB.out.cell (World.block_lt_of_cell? w _ hw325_0)).trans hw325_0), ((HB.out.cell (World.block_lt_of_cell? w _ hw326_0)).trans hw326_0)⟩ (fun hHeld => ?_); refine with_tabW zigguratlaw01_NatTells.tab5 zigguratlaw01_NatTells.bits5 (fun HT_ HW_ => ?_)
                                      generalize w57.drew = w60 at HO314 HO317 HB hx325_0 hx326_0 hHeld ⊢
                                      refine pure_ (i := 0) (N := some 46) (v := ?_) (a' := ?_) #[true, false, false, false, false, false, false, false, false, false, false, false, false, false, false, false, false] rfl rfl (any_of HT_.out (by kernel_rfl)) (fun _ _ _ h => h) (Or.inl ⟨by rfl, ?_⟩) ?_ ?_
                                      rotate_left
                                      · intro w'
                                        go_simp
                                        with_reducible rfl
                                      rotate_left
                                      · simp only [Act.put, List.setIfInBounds_toArray, List.set_cons_zero, List.set_cons_succ, i64_w, i32_w]
                                        rfl
                                      refine pure_ (i := 2) (N := some 48) (v := ?_) (a' := ?_) #[true, false, true, false, false, false, false, false, false, false, false, false, false, false, false, false, false] rfl rfl (any_of HT_.out (by kernel_rfl)) (fun _ _ _ h => h) (Or.inl ⟨by rfl, ?_⟩) ?_ ?_
                                      rotate_left
                                      · intro w'
                                        go_simp
                                        with_reducible rfl
                                      rotate_left
                                      · simp only [Act.put, List.setIfInBounds_toArray, List.set_cons_zero, List.set_cons_succ, i64_w, i32_w]
                                        rfl
                                      refine pure_ (i := 4) (N := some 50) (v := ?_) (a' := ?_) #[true, false, true, false, true, false, false, false, false, false, false, false, false, false, false, false, false] rfl rfl (any_of HT_.out (by kernel_rfl)) (fun _ _ _ h => h) (Or.inl ⟨by rfl, ?_⟩) ?_ ?_
                                      rotate_left
                                      · intro w'
                                        go_simp
                                        with_reducible rfl
                                      rotate_left
                                      · simp only [Act.put, List.setIfInBounds_toArray, List.set_cons_zero, List.set_cons_succ, i64_w, i32_w]
                                        rfl
                                      refine pure_ (i := 8) (N := some 54) (v := ?_) (a' := ?_) #[true, false, true, false, true, false, false, false, true, false, false, false, false, false, false, false, false] rfl rfl (any_of HT_.out (by kernel_rfl)) (fun _ _ _ h => h) (Or.inl ⟨by rfl, ?_⟩) ?_ ?_
                                      rotate_left
                                      · intro w'
                                        go_simp
                                        with_reducible rfl
                                      rotate_left
                                      · simp only [Act.put, List.setIfInBounds_toArray, List.set_cons_zero, List.set_cons_succ, i64_w, i32_w]
                                        rfl
                                      refine take_ (i := 5) (N := some 51) (v := ?_) (a' := ?_) #[true, false, true, false, true, true, false, false, true, false, false, false, false, false, false, false, false] rfl rfl (take_ofW HT_.out HW_.out (by kernel_rfl)) (fun _ _ _ h => h) (Or.inl ⟨by rfl, ?_⟩) hHeld ?_ ?_
                                      rotate_left
                                      · rintro w' ⟨s0, s1⟩
                                        go_simp
                                        with_reducible rfl
                                      rotate_left
                                      · simp only [Act.put, List.setIfInBounds_toArray, List.set_cons_zero, List.set_cons_succ, i64_w, i32_w]
                                        rfl
                                      refine pure_ (i := 6) (N := some 52) (v := ?_) (a' := ?_) #[true, false, true, false, true, true, true, false, true, false, false, false, false, false, false, false, false] rfl rfl (any_of HT_.out (by kernel_rfl)) (fun _ _ _ h => h) (Or.inl ⟨by rfl, ?_⟩) ?_ ?_
                                      rotate_left
                                      · intro w'
                                        go_simp
                                        with_reducible rfl
                                      rotate_left
                                      · simp only [Act.put, List.setIfInBounds_toArray, List.set_cons_zero, List.set_cons_succ, i64_w, i32_w]
                                        rfl
                                      refine pure_ (i := 7) (N := some 53) (v := ?_) (a' := ?_) #[true, false, true, false, true, true, true, true, true, false, false, false, false, false, false, false, false] rfl rfl (any_of HT_.out (by kernel_rfl)) (fun _ _ _ h => h) (Or.inl ⟨by rfl, ?_⟩) ?_ ?_
                                      rotate_left
                                      · intro w'
                                        go_simp
                                        with_reducible rfl
                                      rotate_left
                                      · simp only [Act.put, List.setIfInBounds_toArray, List.set_cons_zero, List.set_cons_succ, i64_w, i32_w]
                                        rfl
                                      refine take_ (i := 9) (N := some 55) (v := ?_) (a' := ?_) #[true, false, true, false, true, true, true, true, true, true, false, false, false, false, false, false, false] rfl rfl (take_ofW HT_.out HW_.out (by kernel_rfl)) (fun _ _ _ h => h) (Or.inl ⟨by rfl, ?_⟩) hHeld ?_ ?_
                                      rotate_left
                                      · rintro w' ⟨s0, s1⟩
                                        go_simp
                                        with_reducible rfl
                                      rotate_left
                                      · simp only [Act.put, List.setIfInBounds_toArray, List.set_cons_zero, List.set_cons_succ, i64_w, i32_w]
                                        rfl
                                      refine pure_ (i := 10) (N := some 56) (v := ?_) (a' := ?_) #[true, false, true, false, true, true, true, true, true, true, true, false, false, false, false, false, false] rfl rfl (any_of HT_.out (by kernel_rfl)) (fun _ _ _ h => h) (Or.inl ⟨by rfl, ?_⟩) ?_ ?_
                                      rotate_left
                                      · intro w'
                                        go_simp
                                        with_reducible rfl
                                      rotate_left
                                      · simp only [Act.put, List.setIfInBounds_toArray, List.set_cons_zero, List.set_cons_succ, i64_w, i32_w]
                                        rfl
                                      refine pure_ (i := 11) (N := some 57) (v := ?_) (a' := ?_) #[true, false, true, false, true, true, true, true, true, true, true, true, false, false, false, false, false] rfl rfl (any_of HT_.out (by kernel_rfl)) (fun _ _ _ h => h) (Or.inl ⟨by rfl, ?_⟩) ?_ ?_
                                      rotate_left
                                      · intro w'
                                        go_simp
                                        with_reducible rfl
                                      rotate_left
                                      · simp only [Act.put, List.setIfInBounds_toArray, List.set_cons_zero, List.set_cons_succ, i64_w, i32_w]
                                        rfl
                                      refine pure_ (i := 12) (N := some 58) (v := ?_) (a' := ?_) #[true, false, true, false, true, true, true, true, true, true, true, true, true, false, false, false, false] rfl rfl (any_of HT_.out (by kernel_rfl)) (fun _ _ _ h => h) (Or.inl ⟨by rfl, ?_⟩) ?_ ?_
                                      rotate_left
                                      · intro w'
                                        go_simp
                                        with_reducible rfl
                                      rotate_left
                                      · simp only [Act.put, List.setIfInBounds_toArray, List.set_cons_zero, List.set_cons_succ, i64_w, i32_w]
                                        rfl
                                      refine one_ (i := 1) (N := some 47) #[true, true, true, false, true, true, true, true, true, true, true, true, true, false, false, false, false] rfl rfl (one_of HT_.out (by kernel_rfl)) (by decide) (fun K hK => ?_)
                                      refine goes_ Try.func17 (by kernel_rfl) rfl #[.slice A0 (l0.take ((ji5) : Int).toNat).length c0] (by rfl) rfl rfl (by (try simp only [List.map_toArray, List.map_cons, List.map_nil]); first | done | (rw [show (l0.take ((ji5) : Int).toNat).length = (ji5).toNat from (by rw [List.length_take]; have h_ : ((ji5) : Int) ≤ (l0.length : Int) := of_decide_eq_true (by first | (with_reducible assumption) | assumption); omega)] <;> rfl) | (simp only [hji5]; rfl) | rfl | (simp only [List.length_drop, List.length_take]; rfl)) ?_
                                      with_reducible refine (zigguratref01_Make.calls k _ _ (l0.take ((ji5) : Int).toNat) t319 _ ?side1 ?side2 A18.out).mono ?_
                                      (case side1 => repeat (first | exact (Kd.C_below HR308.out HB.out) | (with_reducible refine Kd.C_alloc ?_ _) | (with_reducible refine Kd.C_drewN ?_ _) | (with_reducible refine Kd.C_drew ?_)))
                                      (case side2 => exact HC308.out)
                                      rintro e w61 ⟨v320, rfl, ho0, hb⟩
                                      refine ⟨_, rfl, ?_⟩
                                      have n0_ := Aside0.mk (Kd.R_elder' (by (with_reducible repeat (first | apply Kd.R_alloc | apply Kd.R_drewN | apply Kd.R_drew)); exact HO314.out) (Kd.R_base ho0) hb)
                                      have n1_ := Aside0.mk (Kd.R_elder' (by (with_reducible repeat (first | apply Kd.R_alloc | apply Kd.R_drewN | apply Kd.R_drew)); exact HO317.out) (Kd.R_base ho0) hb)
                                      have n2_ := Aside0.mk (Kd.R_lower (Kd.R_new' (Kd.R_new' ho0 (Kd.R_lt (by (with_reducible repeat (first | apply Kd.R_alloc | apply Kd.R_drewN | apply Kd.R_drew)); exact HO314.out))) (Kd.R_lt (by (with_reducible repeat (first | apply Kd.R_alloc | apply Kd.R_drewN | apply Kd.R_drew)); exact HO317.out))) (below_size (by repeat (first | (with_reducible first | exact HB.out | apply below_alloc | apply pw_below_drewN | apply below_drew1) | exact HB.out))))
                                      have n3_ := Aside0.mk (below_step (by repeat (first | (with_reducible first | exact HB.out | apply below_alloc | apply pw_below_drewN | apply below_drew1) | exact HB.out)) hb)
                                      clear HO314
                                      clear HO317
                                      clear HB
                                      have HO314 := n0_
                                      have HO317 := n1_
                                      have HO321 := n2_
                                      have HB := n3_
                                      clear n0_ n1_ n2_ n3_
                                      (try clear hb)
                                      (try clear hb2)
                                      (try clear hk)
                                      (try clear hi)
                                      (try clear ho0)
                                      refine hK.out _ _ ⟨((HB.out.cell (World.block_lt_of_cell? w _ hw325_0)).trans hw325_0), ((HB.out.cell (World.block_lt_of_cell? w _ hw326_0)).trans hw326_0)⟩ (fun hHeld => ?_)
                                      clear hK K
                                      refine norm_ (a' := ?_) ?_ ?_
                                      rotate_left
                                      · show Act.put _ (some 47) _ = _
                                        simp only [Act.put, List.setIfInBounds_toArray, List.set_cons_zero, List.set_cons_succ, i64_w, i32_w]
                                        rfl
                                      refine one_ (i := 3) (N := some 49) #[true, true, true, true, true, true, true, true, true, true, true, true, true, false, false, false, false] rfl rfl (one_of HT_.out (by kernel_rfl)) (by decide) (fun K hK => ?_)
                                      refine goes_ Try.func17 (by kernel_rfl) rfl #[.slice A1 (l1.take ((ji8) : Int).toNat).length c1] (by rfl) rfl rfl (by (try simp only [List.map_toArray, List.map_cons, List.map_nil]); first | done | (rw [show (l1.take ((ji8) : Int).toNat).length = (ji8).toNat from (by rw [List.length_take]; have h_ : ((ji8) : Int) ≤ (l1.length : Int) := of_decide_eq_true (by first | (with_reducible assumption) | assumption); omega)] <;> rfl) | (simp only [hji8]; rfl) | rfl | (simp only [List.length_drop, List.length_take]; rfl)) ?_
                                      with_reducible refine (zigguratref01_Make.calls k _ _ (l1.take ((ji8) : Int).toNat) t322 _ ?side1 ?side2 A19.out).mono ?_
                                      (case side1 => repeat (first | exact (Kd.C_below HR309.out HB.out) | (with_reducible refine Kd.C_alloc ?_ _) | (with_reducible refine Kd.C_drewN ?_ _) | (with_reducible refine Kd.C_drew ?_)))
                                      (case side2 => exact HC309.out)
                                      rintro e w62 ⟨v323, rfl, ho0, hb⟩
                                      refine ⟨_, rfl, ?_⟩
                                      have n0_ := Aside0.mk (Kd.R_elder' (by (with_reducible repeat (first | apply Kd.R_alloc | apply Kd.R_drewN | apply Kd.R_drew)); exact HO314.out) (Kd.R_base ho0) hb)
                                      have n1_ := Aside0.mk (Kd.R_elder' (by (with_reducible repeat (first | apply Kd.R_alloc | apply Kd.R_drewN | apply Kd.R_drew)); exact HO317.out) (Kd.R_base ho0) hb)
                                      have n2_ := Aside0.mk (Kd.R_elder' (by (with_reducible repeat (first | apply Kd.R_alloc | apply Kd.R_drewN | apply Kd.R_drew)); exact HO321.out) (Kd.R_base ho0) hb)
                                      have n3_ := Aside0.mk (Kd.R_lower (Kd.R_new' (Kd.R_new' (Kd.R_new' ho0 (Kd.R_lt (by (with_reducible repeat (first | apply Kd.R_alloc | apply Kd.R_drewN | apply Kd.R_drew)); exact HO314.out))) (Kd.R_lt (by (with_reducible repeat (first | apply Kd.R_alloc | apply Kd.R_drewN | apply Kd.R_drew)); exact HO317.out))) (Kd.R_lt (by (with_reducible repeat (first | apply Kd.R_alloc | apply Kd.R_drewN | apply Kd.R_drew)); exact HO321.out))) (below_size (by repeat (first | (with_reducible first | exact HB.out | apply below_alloc | apply pw_below_drewN | apply below_drew1) | exact HB.out))))
                                      have n4_ := Aside0.mk (below_step (by repeat (first | (with_reducible first | exact HB.out | apply below_alloc | apply pw_below_drewN | apply below_drew1) | exact HB.out)) hb)
                                      clear HO314
                                      clear HO317
                                      clear HO321
                                      clear HB
                                      have HO314 := n0_
                                      have HO317 := n1_
                                      have HO321 := n2_
                                      have HO324 := n3_
                                      have HB := n4_
                                      clear n0_ n1_ n2_ n3_ n4_
                                      (try clear hb)
                                      (try clear hb2)
                                      (try clear hk)
                                      (try clear hi)
                                      (try clear ho0)
                                      refine hK.out _ _ ⟨((HB.out.cell (World.block_lt_of_cell? w _ hw325_0)).trans hw325_0), ((HB.out.cell (World.block_lt_of_cell? w _ hw326_0)).trans hw326_0)⟩ (fun hHeld => ?_)
                                      clear hK K
                                      refine norm_ (a' := ?_) ?_ ?_
                                      rotate_left
                                      · show Act.put _ (some 49) _ = _
                                        simp only [Act.put, List.setIfInBounds_toArray, List.set_cons_zero, List.set_cons_succ, i64_w, i32_w]
                                        rfl
                                      refine pure_ (i := 13) (N := some 10) (v := ?_) (a' := ?_) #[true, true, true, true, true, true, true, true, true, true, true, true, true, true, false, false, false] rfl rfl (any_of HT_.out (by kernel_rfl)) (fun _ _ _ h => h) (Or.inl ⟨by rfl, ?_⟩) ?_ ?_
                                      rotate_left
                                      · intro w'
                                        go_simp
                                        with_reducible rfl
                                      rotate_left
                                      · simp only [Act.put, List.setIfInBounds_toArray, List.set_cons_zero, List.set_cons_succ, i64_w, i32_w]
                                        rfl
                                      refine pure_ (i := 14) (N := some 11) (v := ?_) (a' := ?_) #[true, true, true, true, true, true, true, true, true, true, true, true, true, true, true, false, false] rfl rfl (any_of HT_.out (by kernel_rfl)) (fun _ _ _ h => h) (Or.inl ⟨by rfl, ?_⟩) ?_ ?_
                                      rotate_left
                                      · intro w'
                                        go_simp
                                        with_reducible rfl
                                      rotate_left
                                      · simp only [Act.put, List.setIfInBounds_toArray, List.set_cons_zero, List.set_cons_succ, i64_w, i32_w]
                                        rfl
                                      refine pure_ (i := 15) (N := some 12) (v := ?_) (a' := ?_) #[true, true, true, true, true, true, true, true, true, true, true, true, true, true, true, true, false] rfl rfl (any_of HT_.out (by kernel_rfl)) (fun _ _ _ h => h) (Or.inl ⟨by rfl, ?_⟩) ?_ ?_
                                      rotate_left
                                      · intro w'
                                        go_simp
                                        with_reducible rfl
                                      rotate_left
                                      · simp only [Act.put, List.setIfInBounds_toArray, List.set_cons_zero, List.set_cons_succ, i64_w, i32_w]
                                        rfl
                                      refine pure_ (i := 16) (N := some 13) (v := ?_) (a' := ?_) #[true, true, true, true, true, true, true, true, true, true, true, true, true, true, true, true, true] rfl rfl (any_of HT_.out (by kernel_rfl)) (fun _ _ _ h => h) (Or.inl ⟨by rfl, ?_⟩) ?_ ?_
                                      rotate_left
                                      · intro w'
                                        go_simp
                                        with_reducible rfl
                                      rotate_left
                                      · simp only [Act.put, List.setIfInBounds_toArray, List.set_cons_zero, List.set_cons_succ, i64_w, i32_w]
                                        rfl
                                      refine done_ (done_of HT_.out (by kernel_rfl)) ?_
                                      obtain ⟨Ao63, co63, eo63⟩ := Kd.R_slice HO321.out
                                      subst eo63
                                      obtain ⟨Ao64, co64, eo64⟩ := Kd.R_slice HO324.out
                                      subst eo64
                                      try go_wp2_with (first | ((with_reducible refine gate_callee (f := 18) rfl ?_); refine goesL_ (some 62) rfl rfl Try.func18 (by kernel_rfl) rfl #[.slice Ao63 t319.length co63, .slice Ao64 t322.length co64] rfl (by (try simp only [List.map_toArray, List.map_cons, List.map_nil]); first | done | rfl | (simp only [List.length_drop, List.length_take]; rfl)) ?_; (with_reducible refine (nat_Sub.calls k _ _ t319 _ _ t322 t327 t328 _ ?side1 ?side2 ?side3 ?side4 A22.out).mono ?_); (case side1 => repeat (first | exact (Kd.R_reads' HO321.out).2.2 | (with_reducible refine Kd.C_alloc ?_ _) | (with_reducible refine Kd.C_drewN ?_ _) | (with_reducible refine Kd.C_drew ?_))); (case side2 => exact (Kd.R_reads' HO321.out).2.1); (case side3 => repeat (first | exact (Kd.R_reads' HO324.out).2.2 | (with_reducible refine Kd.C_alloc ?_ _) | (with_reducible refine Kd.C_drewN ?_ _) | (with_reducible refine Kd.C_drew ?_))); (case side4 => exact (Kd.R_reads' HO324.out).2.1); rintro e w65 ⟨v329, rfl, ho0, hb⟩; refine ⟨_, rfl, ?_⟩; have n0_ := Aside0.mk (Kd.R_elder' (by (with_reducible repeat (first | apply Kd.R_alloc | apply Kd.R_drewN | apply Kd.R_drew)); exact HO314.out) (Kd.R_base ho0) hb); have n1_ := Aside0.mk (Kd.R_elder' (by (with_reducible repeat (first | apply Kd.R_alloc | apply Kd.R_drewN | apply Kd.R_drew)); exact HO317.out) (Kd.R_base ho0) hb); have n2_ := Aside0.mk (Kd.R_elder' (by (with_reducible repeat (first | apply Kd.R_alloc | apply Kd.R_drewN | apply Kd.R_drew)); exact HO321.out) (Kd.R_base ho0) hb); have n3_ := Aside0.mk (Kd.R_elder' (by (with_reducible repeat (first | apply Kd.R_alloc | apply Kd.R_drewN | apply Kd.R_drew)); exact HO324.out) (Kd.R_base ho0) hb); have n4_ := Aside0.mk (Kd.R_lower (Kd.R_new' (Kd.R_new' (Kd.R_new' (Kd.R_new' ho0 (Kd.R_lt (by (with_reducible repeat (first | apply Kd.R_alloc | apply Kd.R_drewN | apply Kd.R_drew)); exact HO314.out))) (Kd.R_lt (by (with_reducible repeat (first | apply Kd.R_alloc | apply Kd.R_drewN | apply Kd.R_drew)); exact HO317.out))) (Kd.R_lt (by (with_reducible repeat (first | apply Kd.R_alloc | apply Kd.R_drewN | apply Kd.R_drew)); exact HO321.out))) (Kd.R_lt (by (with_reducible repeat (first | apply Kd.R_alloc | apply Kd.R_drewN | apply Kd.R_drew)); exact HO324.out))) (below_size (by repeat (first | (with_reducible first | exact HB.out | apply below_alloc | apply pw_below_drewN | apply below_drew1) | exact HB.out)))); have n5_ := Aside0.mk (below_step (by repeat (first | (with_reducible first | exact HB.out | apply below_alloc | apply pw_below_drewN | apply below_drew1) | exact HB.out)) hb); clear HO314; clear HO317; clear HO321; clear HO324; clear HB; have HO314 := n0_; have HO317 := n1_; have HO321 := n2_; have HO324 := n3_; have HO330 := n4_; have HB := n5_; clear n0_ n1_ n2_ n3_ n4_ n5_; (try clear hb); (try clear hb2); (try clear hk); (try clear hi); (try clear ho0)) | ((with_reducible refine gate_callee (f := 19) rfl ?_); refine goesL_ (some 68) rfl rfl Try.func19 (by kernel_rfl) rfl #[.slice Ao63 t319.length co63, .slice Ao64 t322.length co64] rfl (by (try simp only [List.map_toArray, List.map_cons, List.map_nil]); first | done | rfl | (simp only [List.length_drop, List.length_take]; rfl)) ?_; (with_reducible refine (zigguratref01_Sub.calls k _ _ t319 _ _ t322 t331 t332 _ ?side1 ?side2 ?side3 ?side4 A23.out).mono ?_); (case side1 => repeat (first | exact (Kd.R_reads' HO321.out).2.2 | (with_reducible refine Kd.C_alloc ?_ _) | (with_reducible refine Kd.C_drewN ?_ _) | (with_reducible refine Kd.C_drew ?_))); (case side2 => exact (Kd.R_reads' HO321.out).2.1); (case side3 => repeat (first | exact (Kd.R_reads' HO324.out).2.2 | (with_reducible refine Kd.C_alloc ?_ _) | (with_reducible refine Kd.C_drewN ?_ _) | (with_reducible refine Kd.C_drew ?_))); (case side4 => exact (Kd.R_reads' HO324.out).2.1); rintro e w66 ⟨v333, rfl, ho0, hb⟩; refine ⟨_, rfl, ?_⟩; have n0_ := Aside0.mk (Kd.R_elder' (by (with_reducible repeat (first | apply Kd.R_alloc | apply Kd.R_drewN | apply Kd.R_drew)); exact HO314.out) (Kd.R_base ho0) hb); have n1_ := Aside0.mk (Kd.R_elder' (by (with_reducible repeat (first | apply Kd.R_alloc | apply Kd.R_drewN | apply Kd.R_drew)); exact HO317.out) (Kd.R_base ho0) hb); have n2_ := Aside0.mk (Kd.R_elder' (by (with_reducible repeat (first | apply Kd.R_alloc | apply Kd.R_drewN | apply Kd.R_drew)); exact HO321.out) (Kd.R_base ho0) hb); have n3_ := Aside0.mk (Kd.R_elder' (by (with_reducible repeat (first | apply Kd.R_alloc | apply Kd.R_drewN | apply Kd.R_drew)); exact HO324.out) (Kd.R_base ho0) hb); have n4_ := Aside0.mk (Kd.R_elder' (by (with_reducible repeat (first | apply Kd.R_alloc | apply Kd.R_drewN | apply Kd.R_drew)); exact HO330.out) (Kd.R_base ho0) hb); have n5_ := Aside0.mk (Kd.R_lower (Kd.R_new' (Kd.R_new' (Kd.R_new' (Kd.R_new' (Kd.R_new' ho0 (Kd.R_lt (by (with_reducible repeat (first | apply Kd.R_alloc | apply Kd.R_drewN | apply Kd.R_drew)); exact HO314.out))) (Kd.R_lt (by (with_reducible repeat (first | apply Kd.R_alloc | apply Kd.R_drewN | apply Kd.R_drew)); exact HO317.out))) (Kd.R_lt (by (with_reducible repeat (first | apply Kd.R_alloc | apply Kd.R_drewN | apply Kd.R_drew)); exact HO321.out))) (Kd.R_lt (by (with_reducible repeat (first | apply Kd.R_alloc | apply Kd.R_drewN | apply Kd.R_drew)); exact HO324.out))) (Kd.R_lt (by (with_reducible repeat (first | apply Kd.R_alloc | apply Kd.R_drewN | apply Kd.R_drew)); exact HO330.out))) (below_size (by repeat (first | (with_reducible first | exact HB.out | apply below_alloc | apply pw_below_drewN | apply below_drew1) | exact HB.out)))); have n6_ := Aside0.mk (below_step (by repeat (first | (with_reducible first | exact HB.out | apply below_alloc | apply pw_below_drewN | apply below_drew1) | exact HB.out)) hb); clear HO314; clear HO317; clear HO321; clear HO324; clear HO330; clear HB; have HO314 := n0_; have HO317 := n1_; have HO321 := n2_; have HO324 := n3_; have HO330 := n4_; have HO334 := n5_; have HB := n6_; clear n0_ n1_ n2_ n3_ n4_ n5_ n6_; (try clear hb); (try clear hb2); (try clear hk); (try clear hi); (try clear ho0)) | ((with_reducible refine gate_callee (f := 20) rfl ?_); refine goesL_ (some 73) rfl rfl Try.func20 (by kernel_rfl) rfl #[.slice Ao63 t319.length co63] rfl (by (try simp only [List.map_toArray, List.map_cons, List.map_nil]); first | done | rfl | (simp only [List.length_drop, List.length_take]; rfl)) ?_; (with_reducible refine (nat_Low.calls k _ _ t319 t335 t336 _ ?side1 ?side2 A24.out).mono ?_); (case side1 => repeat (first | exact (Kd.R_reads' HO321.out).2.2 | (with_reducible refine Kd.C_alloc ?_ _) | (with_reducible refine Kd.C_drewN ?_ _) | (with_reducible refine Kd.C_drew ?_))); (case side2 => exact (Kd.R_reads' HO321.out).2.1); rintro e w' ⟨rfl, ⟨nd, rfl⟩⟩; refine ⟨_, rfl, ?_⟩) | ((with_reducible refine gate_callee (f := 21) rfl ?_); refine goesL_ (some 78) rfl rfl Try.func21 (by kernel_rfl) rfl #[.slice Ao63 t319.length co63] rfl (by (try simp only [List.map_toArray, List.map_cons, List.map_nil]); first | done | rfl | (simp only [List.length_drop, List.length_take]; rfl)) ?_; (with_reducible refine (zigguratref01_Low.calls k _ _ t319 t337 t338 _ ?side1 ?side2 A25.out).mono ?_); (case side1 => repeat (first | exact (Kd.R_reads' HO321.out).2.2 | (with_reducible refine Kd.C_alloc ?_ _) | (with_reducible refine Kd.C_drewN ?_ _) | (with_reducible refine Kd.C_drew ?_))); (case side2 => exact (Kd.R_reads' HO321.out).2.1); rintro e w' ⟨rfl, ⟨nd, rfl⟩⟩; refine ⟨_, rfl, ?_⟩; obtain ⟨Ao67, co67, eo67⟩ := Kd.R_slice HO330.out; subst eo67; obtain ⟨Ao68, co68, eo68⟩ := Kd.R_slice HO334.out; subst eo68) | ((with_reducible refine gate_callee (f := 15) rfl ?_); refine goesL_ (some 83) rfl rfl Try.func15 (by kernel_rfl) rfl #[.slice Ao67 t327.length co67, .slice Ao68 t331.length co68] rfl (by (try simp only [List.map_toArray, List.map_cons, List.map_nil]); first | done | rfl | (simp only [List.length_drop, List.length_take]; rfl)) ?_; (with_reducible refine (zigguratref01_Same.calls k _ _ t327 _ _ t331 true _ ?side1 ?side2 ?side3 ?side4 A26.out).mono ?_); (case side1 => repeat (first | exact (Kd.R_reads' HO330.out).2.2 | (with_reducible refine Kd.C_alloc ?_ _) | (with_reducible refine Kd.C_drewN ?_ _) | (with_reducible refine Kd.C_drew ?_))); (case side2 => exact (Kd.R_reads' HO330.out).2.1); (case side3 => repeat (first | exact (Kd.R_reads' HO334.out).2.2 | (with_reducible refine Kd.C_alloc ?_ _) | (with_reducible refine Kd.C_drewN ?_ _) | (with_reducible refine Kd.C_drew ?_))); (case side4 => exact (Kd.R_reads' HO334.out).2.1); rintro e w' ⟨rfl, ⟨nd, rfl⟩⟩; refine ⟨_, rfl, ?_⟩) | (go_at_call 22; (with_reducible refine (nat_Add.calls k _ _ t319 _ _ t322 t340 _ ?side1 ?side2 ?side3 ?side4 A31.out).mono ?_); (case side1 => repeat (first | exact (Kd.R_reads' HO321.out).2.2 | (with_reducible refine Kd.C_alloc ?_ _) | (with_reducible refine Kd.C_drewN ?_ _) | (with_reducible refine Kd.C_drew ?_))); (case side2 => exact (Kd.R_reads' HO321.out).2.1); (case side3 => repeat (first | exact (Kd.R_reads' HO324.out).2.2 | (with_reducible refine Kd.C_alloc ?_ _) | (with_reducible refine Kd.C_drewN ?_ _) | (with_reducible refine Kd.C_drew ?_))); (case side4 => exact (Kd.R_reads' HO324.out).2.1); rintro e w69 ⟨v341, rfl, ho0, hb⟩; have n0_ := Aside0.mk (Kd.R_elder' (by (with_reducible repeat (first | apply Kd.R_alloc | apply Kd.R_drewN | apply Kd.R_drew)); exact HO314.out) (Kd.R_base ho0) hb); have n1_ := Aside0.mk (Kd.R_elder' (by (with_reducible repeat (first | apply Kd.R_alloc | apply Kd.R_drewN | apply Kd.R_drew)); exact HO317.out) (Kd.R_base ho0) hb); have n2_ := Aside0.mk (Kd.R_elder' (by (with_reducible repeat (first | apply Kd.R_alloc | apply Kd.R_drewN | apply Kd.R_drew)); exact HO321.out) (Kd.R_base ho0) hb); have n3_ := Aside0.mk (Kd.R_elder' (by (with_reducible repeat (first | apply Kd.R_alloc | apply Kd.R_drewN | apply Kd.R_drew)); exact HO324.out) (Kd.R_base ho0) hb); have n4_ := Aside0.mk (Kd.R_elder' (by (with_reducible repeat (first | apply Kd.R_alloc | apply Kd.R_drewN | apply Kd.R_drew)); exact HO330.out) (Kd.R_base ho0) hb); have n5_ := Aside0.mk (Kd.R_elder' (by (with_reducible repeat (first | apply Kd.R_alloc | apply Kd.R_drewN | apply Kd.R_drew)); exact HO334.out) (Kd.R_base ho0) hb); have n6_ := Aside0.mk (Kd.R_lower (Kd.R_new' (Kd.R_new' (Kd.R_new' (Kd.R_new' (Kd.R_new' (Kd.R_new' ho0 (Kd.R_lt (by (with_reducible repeat (first | apply Kd.R_alloc | apply Kd.R_drewN | apply Kd.R_drew)); exact HO314.out))) (Kd.R_lt (by (with_reducible repeat (first | apply Kd.R_alloc | apply Kd.R_drewN | apply Kd.R_drew)); exact HO317.out))) (Kd.R_lt (by (with_reducible repeat (first | apply Kd.R_alloc | apply Kd.R_drewN | apply Kd.R_drew)); exact HO321.out))) (Kd.R_lt (by (with_reducible repeat (first | apply Kd.R_alloc | apply Kd.R_drewN | apply Kd.R_drew)); exact HO324.out))) (Kd.R_lt (by (with_reducible repeat (first | apply Kd.R_alloc | apply Kd.R_drewN | apply Kd.R_drew)); exact HO330.out))) (Kd.R_lt (by (with_reducible repeat (first | apply Kd.R_alloc | apply Kd.R_drewN | apply Kd.R_drew)); exact HO334.out))) (below_size (by repeat (first | (with_reducible first | exact HB.out | apply below_alloc | apply pw_below_drewN | apply below_drew1) | exact HB.out)))); have n7_ := Aside0.mk (below_step (by repeat (first | (with_reducible first | exact HB.out | apply below_alloc | apply pw_below_drewN | apply below_drew1) | exact HB.out)) hb); clear HO314; clear HO317; clear HO321; clear HO324; clear HO330; clear HO334; clear HB; have HO314 := n0_; have HO317 := n1_; have HO321 := n2_; have HO324 := n3_; have HO330 := n4_; have HO334 := n5_; have HO342 := n6_; have HB := n7_; clear n0_ n1_ n2_ n3_ n4_ n5_ n6_ n7_; (try clear hb); (try clear hb2); (try clear hk); (try clear hi); (try clear ho0)) | (go_at_call 23; (with_reducible refine (zigguratref01_Add.calls k _ _ t319 _ _ t322 t343 _ ?side1 ?side2 ?side3 ?side4 A32.out).mono ?_); (case side1 => repeat (first | exact (Kd.R_reads' HO321.out).2.2 | (with_reducible refine Kd.C_alloc ?_ _) | (with_reducible refine Kd.C_drewN ?_ _) | (with_reducible refine Kd.C_drew ?_))); (case side2 => exact (Kd.R_reads' HO321.out).2.1); (case side3 => repeat (first | exact (Kd.R_reads' HO324.out).2.2 | (with_reducible refine Kd.C_alloc ?_ _) | (with_reducible refine Kd.C_drewN ?_ _) | (with_reducible refine Kd.C_drew ?_))); (case side4 => exact (Kd.R_reads' HO324.out).2.1); rintro e w70 ⟨v344, rfl, ho0, hb⟩; have n0_ := Aside0.mk (Kd.R_elder' (by (with_reducible repeat (first | apply Kd.R_alloc | apply Kd.R_drewN | apply Kd.R_drew)); exact HO314.out) (Kd.R_base ho0) hb); have n1_ := Aside0.mk (Kd.R_elder' (by (with_reducible repeat (first | apply Kd.R_alloc | apply Kd.R_drewN | apply Kd.R_drew)); exact HO317.out) (Kd.R_base ho0) hb); have n2_ := Aside0.mk (Kd.R_elder' (by (with_reducible repeat (first | apply Kd.R_alloc | apply Kd.R_drewN | apply Kd.R_drew)); exact HO321.out) (Kd.R_base ho0) hb); have n3_ := Aside0.mk (Kd.R_elder' (by (with_reducible repeat (first | apply Kd.R_alloc | apply Kd.R_drewN | apply Kd.R_drew)); exact HO324.out) (Kd.R_base ho0) hb); have n4_ := Aside0.mk (Kd.R_elder' (by (with_reducible repeat (first | apply Kd.R_alloc | apply Kd.R_drewN | apply Kd.R_drew)); exact HO330.out) (Kd.R_base ho0) hb); have n5_ := Aside0.mk (Kd.R_elder' (by (with_reducible repeat (first | apply Kd.R_alloc | apply Kd.R_drewN | apply Kd.R_drew)); exact HO334.out) (Kd.R_base ho0) hb); have n6_ := Aside0.mk (Kd.R_elder' (by (with_reducible repeat (first | apply Kd.R_alloc | apply Kd.R_drewN | apply Kd.R_drew)); exact HO342.out) (Kd.R_base ho0) hb); have n7_ := Aside0.mk (Kd.R_lower (Kd.R_new' (Kd.R_new' (Kd.R_new' (Kd.R_new' (Kd.R_new' (Kd.R_new' (Kd.R_new' ho0 (Kd.R_lt (by (with_reducible repeat (first | apply Kd.R_alloc | apply Kd.R_drewN | apply Kd.R_drew)); exact HO314.out))) (Kd.R_lt (by (with_reducible repeat (first | apply Kd.R_alloc | apply Kd.R_drewN | apply Kd.R_drew)); exact HO317.out))) (Kd.R_lt (by (with_reducible repeat (first | apply Kd.R_alloc | apply Kd.R_drewN | apply Kd.R_drew)); exact HO321.out))) (Kd.R_lt (by (with_reducible repeat (first | apply Kd.R_alloc | apply Kd.R_drewN | apply Kd.R_drew)); exact HO324.out))) (Kd.R_lt (by (with_reducible repeat (first | apply Kd.R_alloc | apply Kd.R_drewN | apply Kd.R_drew)); exact HO330.out))) (Kd.R_lt (by (with_reducible repeat (first | apply Kd.R_alloc | apply Kd.R_drewN | apply Kd.R_drew)); exact HO334.out))) (Kd.R_lt (by (with_reducible repeat (first | apply Kd.R_alloc | apply Kd.R_drewN | apply Kd.R_drew)); exact HO342.out))) (below_size (by repeat (first | (with_reducible first | exact HB.out | apply below_alloc | apply pw_below_drewN | apply below_drew1) | exact HB.out)))); have n8_ := Aside0.mk (below_step (by repeat (first | (with_reducible first | exact HB.out | apply below_alloc | apply pw_below_drewN | apply below_drew1) | exact HB.out)) hb); clear HO314; clear HO317; clear HO321; clear HO324; clear HO330; clear HO334; clear HO342; clear HB; have HO314 := n0_; have HO317 := n1_; have HO321 := n2_; have HO324 := n3_; have HO330 := n4_; have HO334 := n5_; have HO342 := n6_; have HO345 := n7_; have HB := n8_; clear n0_ n1_ n2_ n3_ n4_ n5_ n6_ n7_ n8_; (try clear hb); (try clear hb2); (try clear hk); (try clear hi); (try clear ho0); obtain ⟨Ao71, co71, eo71⟩ := Kd.R_slice HO342.out; subst eo71; obtain ⟨Ao72, co72, eo72⟩ := Kd.R_slice HO345.out; subst eo72) | (go_at_call 15; (with_reducible refine (zigguratref01_Same.calls k _ _ t340 _ _ t343 true _ ?side1 ?side2 ?side3 ?side4 A33.out).mono ?_); (case side1 => repeat (first | exact (Kd.R_reads' HO342.out).2.2 | (with_reducible refine Kd.C_alloc ?_ _) | (with_reducible refine Kd.C_drewN ?_ _) | (with_reducible refine Kd.C_drew ?_))); (case side2 => exact (Kd.R_reads' HO342.out).2.1); (case side3 => repeat (first | exact (Kd.R_reads' HO345.out).2.2 | (with_reducible refine Kd.C_alloc ?_ _) | (with_reducible refine Kd.C_drewN ?_ _) | (with_reducible refine Kd.C_drew ?_))); (case side4 => exact (Kd.R_reads' HO345.out).2.1); rintro e w' ⟨rfl, ⟨nd, rfl⟩⟩) | (go_at_call 24; (with_reducible refine (nat_Cmp.calls k _ _ t319 _ _ t322 t347 _ ?side1 ?side2 ?side3 ?side4 A35.out).mono ?_); (case side1 => repeat (first | exact (Kd.R_reads' HO321.out).2.2 | (with_reducible refine Kd.C_alloc ?_ _) | (with_reducible refine Kd.C_drewN ?_ _) | (with_reducible refine Kd.C_drew ?_))); (case side2 => exact (Kd.R_reads' HO321.out).2.1); (case side3 => repeat (first | exact (Kd.R_reads' HO324.out).2.2 | (with_reducible refine Kd.C_alloc ?_ _) | (with_reducible refine Kd.C_drewN ?_ _) | (with_reducible refine Kd.C_drew ?_))); (case side4 => exact (Kd.R_reads' HO324.out).2.1); rintro e w73 ⟨rfl, hb⟩; have n0_ := Aside0.mk (Kd.R_below (by (with_reducible repeat (first | apply Kd.R_alloc | apply Kd.R_drewN | apply Kd.R_drew)); exact HO314.out) hb); have n1_ := Aside0.mk (Kd.R_below (by (with_reducible repeat (first | apply Kd.R_alloc | apply Kd.R_drewN | apply Kd.R_drew)); exact HO317.out) hb); have n2_ := Aside0.mk (Kd.R_below (by (with_reducible repeat (first | apply Kd.R_alloc | apply Kd.R_drewN | apply Kd.R_drew)); exact HO321.out) hb); have n3_ := Aside0.mk (Kd.R_below (by (with_reducible repeat (first | apply Kd.R_alloc | apply Kd.R_drewN | apply Kd.R_drew)); exact HO324.out) hb); have n4_ := Aside0.mk (Kd.R_below (by (with_reducible repeat (first | apply Kd.R_alloc | apply Kd.R_drewN | apply Kd.R_drew)); exact HO330.out) hb); have n5_ := Aside0.mk (Kd.R_below (by (with_reducible repeat (first | apply Kd.R_alloc | apply Kd.R_drewN | apply Kd.R_drew)); exact HO334.out) hb); have n6_ := Aside0.mk (Kd.R_below (by (with_reducible repeat (first | apply Kd.R_alloc | apply Kd.R_drewN | apply Kd.R_drew)); exact HO342.out) hb); have n7_ := Aside0.mk (Kd.R_below (by (with_reducible repeat (first | apply Kd.R_alloc | apply Kd.R_drewN | apply Kd.R_drew)); exact HO345.out) hb); have n8_ := Aside0.mk (below_step (by repeat (first | (with_reducible first | exact HB.out | apply below_alloc | apply pw_below_drewN | apply below_drew1) | exact HB.out)) hb); clear HO314; clear HO317; clear HO321; clear HO324; clear HO330; clear HO334; clear HO342; clear HO345; clear HB; have HO314 := n0_; have HO317 := n1_; have HO321 := n2_; have HO324 := n3_; have HO330 := n4_; have HO334 := n5_; have HO342 := n6_; have HO345 := n7_; have HB := n8_; clear n0_ n1_ n2_ n3_ n4_ n5_ n6_ n7_ n8_; (try clear hb); (try clear hb2); (try clear hk); (try clear hi)) | (go_at_call 25; (with_reducible refine (zigguratref01_Cmp.calls k _ _ t319 _ _ t322 t348 _ ?side1 ?side2 ?side3 ?side4 A36.out).mono ?_); (case side1 => repeat (first | exact (Kd.R_reads' HO321.out).2.2 | (with_reducible refine Kd.C_alloc ?_ _) | (with_reducible refine Kd.C_drewN ?_ _) | (with_reducible refine Kd.C_drew ?_))); (case side2 => exact (Kd.R_reads' HO321.out).2.1); (case side3 => repeat (first | exact (Kd.R_reads' HO324.out).2.2 | (with_reducible refine Kd.C_alloc ?_ _) | (with_reducible refine Kd.C_drewN ?_ _) | (with_reducible refine Kd.C_drew ?_))); (case side4 => exact (Kd.R_reads' HO324.out).2.1); rintro e w74 ⟨rfl, hb⟩; have n0_ := Aside0.mk (Kd.R_below (by (with_reducible repeat (first | apply Kd.R_alloc | apply Kd.R_drewN | apply Kd.R_drew)); exact HO314.out) hb); have n1_ := Aside0.mk (Kd.R_below (by (with_reducible repeat (first | apply Kd.R_alloc | apply Kd.R_drewN | apply Kd.R_drew)); exact HO317.out) hb); have n2_ := Aside0.mk (Kd.R_below (by (with_reducible repeat (first | apply Kd.R_alloc | apply Kd.R_drewN | apply Kd.R_drew)); exact HO321.out) hb); have n3_ := Aside0.mk (Kd.R_below (by (with_reducible repeat (first | apply Kd.R_alloc | apply Kd.R_drewN | apply Kd.R_drew)); exact HO324.out) hb); have n4_ := Aside0.mk (Kd.R_below (by (with_reducible repeat (first | apply Kd.R_alloc | apply Kd.R_drewN | apply Kd.R_drew)); exact HO330.out) hb); have n5_ := Aside0.mk (Kd.R_below (by (with_reducible repeat (first | apply Kd.R_alloc | apply Kd.R_drewN | apply Kd.R_drew)); exact HO334.out) hb); have n6_ := Aside0.mk (Kd.R_below (by (with_reducible repeat (first | apply Kd.R_alloc | apply Kd.R_drewN | apply Kd.R_drew)); exact HO342.out) hb); have n7_ := Aside0.mk (Kd.R_below (by (with_reducible repeat (first | apply Kd.R_alloc | apply Kd.R_drewN | apply Kd.R_drew)); exact HO345.out) hb); have n8_ := Aside0.mk (below_step (by repeat (first | (with_reducible first | exact HB.out | apply below_alloc | apply pw_below_drewN | apply below_drew1) | exact HB.out)) hb); clear HO314; clear HO317; clear HO321; clear HO324; clear HO330; clear HO334; clear HO342; clear HO345; clear HB; have HO314 := n0_; have HO317 := n1_; have HO321 := n2_; have HO324 := n3_; have HO330 := n4_; have HO334 := n5_; have HO342 := n6_; have HO345 := n7_; have HB := n8_; clear n0_ n1_ n2_ n3_ n4_ n5_ n6_ n7_ n8_; (try clear hb); (try clear hb2); (try clear hk); (try clear hi)) | (go_at_call 26; (with_reducible refine (nat_Bits.calls _ _ t319 t349 _ ?side1 ?side2 A38.out).mono ?_); (case side1 => repeat (first | exact (Kd.R_reads' HO321.out).2.2 | (with_reducible refine Kd.C_alloc ?_ _) | (with_reducible refine Kd.C_drewN ?_ _) | (with_reducible refine Kd.C_drew ?_))); (case side2 => exact (Kd.R_reads' HO321.out).2.1); rintro e w' ⟨rfl, ⟨nd, rfl⟩⟩) | (go_at_call 27; (with_reducible refine (zigguratref01_Bits.calls k _ _ t319 t350 _ ?side1 ?side2 A39.out).mono ?_); (case side1 => repeat (first | exact (Kd.R_reads' HO321.out).2.2 | (with_reducible refine Kd.C_alloc ?_ _) | (with_reducible refine Kd.C_drewN ?_ _) | (with_reducible refine Kd.C_drew ?_))); (case side2 => exact (Kd.R_reads' HO321.out).2.1); rintro e w' ⟨rfl, ⟨nd, rfl⟩⟩) | (go_at_call 28; (with_reducible refine (nat_Bit.calls _ _ t319 (wrap64 ((Int.tmod (wrap64 (rd l2 1)) 2100) - 50)) t351 _ ?side1 ?side2 A41.out).mono ?_); (case side1 => repeat (first | exact (Kd.R_reads' HO321.out).2.2 | (with_reducible refine Kd.C_alloc ?_ _) | (with_reducible refine Kd.C_drewN ?_ _) | (with_reducible refine Kd.C_drew ?_))); (case side2 => exact (Kd.R_reads' HO321.out).2.1); rintro e w' ⟨rfl, ⟨nd, rfl⟩⟩) | (go_at_call 29; (with_reducible refine (zigguratref01_Bit.calls k _ _ t319 (wrap64 ((Int.tmod (wrap64 (rd l2 1)) 2100) - 50)) t352 _ ?side1 ?side2 A42.out).mono ?_); (case side1 => repeat (first | exact (Kd.R_reads' HO321.out).2.2 | (with_reducible refine Kd.C_alloc ?_ _) | (with_reducible refine Kd.C_drewN ?_ _) | (with_reducible refine Kd.C_drew ?_))); (case side2 => exact (Kd.R_reads' HO321.out).2.1); rintro e w' ⟨rfl, ⟨nd, rfl⟩⟩) | (go_at_call 30; (with_reducible refine (nat_Shl.calls k _ _ t319 (Int.tmod (wrap64 (rd l2 0)) 2001) t353 _ ?side1 ?side2 A44.out).mono ?_); (case side1 => repeat (first | exact (Kd.R_reads' HO321.out).2.2 | (with_reducible refine Kd.C_alloc ?_ _) | (with_reducible refine Kd.C_drewN ?_ _) | (with_reducible refine Kd.C_drew ?_))); (case side2 => exact (Kd.R_reads' HO321.out).2.1); rintro e w75 ⟨v354, rfl, ho0, hb⟩; have n0_ := Aside0.mk (Kd.R_elder' (by (with_reducible repeat (first | apply Kd.R_alloc | apply Kd.R_drewN | apply Kd.R_drew)); exact HO314.out) (Kd.R_base ho0) hb); have n1_ := Aside0.mk (Kd.R_elder' (by (with_reducible repeat (first | apply Kd.R_alloc | apply Kd.R_drewN | apply Kd.R_drew)); exact HO317.out) (Kd.R_base ho0) hb); have n2_ := Aside0.mk (Kd.R_elder' (by (with_reducible repeat (first | apply Kd.R_alloc | apply Kd.R_drewN | apply Kd.R_drew)); exact HO321.out) (Kd.R_base ho0) hb); have n3_ := Aside0.mk (Kd.R_elder' (by (with_reducible repeat (first | apply Kd.R_alloc | apply Kd.R_drewN | apply Kd.R_drew)); exact HO324.out) (Kd.R_base ho0) hb); have n4_ := Aside0.mk (Kd.R_elder' (by (with_reducible repeat (first | apply Kd.R_alloc | apply Kd.R_drewN | apply Kd.R_drew)); exact HO330.out) (Kd.R_base ho0) hb); have n5_ := Aside0.mk (Kd.R_elder' (by (with_reducible repeat (first | apply Kd.R_alloc | apply Kd.R_drewN | apply Kd.R_drew)); exact HO334.out) (Kd.R_base ho0) hb); have n6_ := Aside0.mk (Kd.R_elder' (by (with_reducible repeat (first | apply Kd.R_alloc | apply Kd.R_drewN | apply Kd.R_drew)); exact HO342.out) (Kd.R_base ho0) hb); have n7_ := Aside0.mk (Kd.R_elder' (by (with_reducible repeat (first | apply Kd.R_alloc | apply Kd.R_drewN | apply Kd.R_drew)); exact HO345.out) (Kd.R_base ho0) hb); have n8_ := Aside0.mk (Kd.R_lower (Kd.R_new' (Kd.R_new' (Kd.R_new' (Kd.R_new' (Kd.R_new' (Kd.R_new' (Kd.R_new' (Kd.R_new' ho0 (Kd.R_lt (by (with_reducible repeat (first | apply Kd.R_alloc | apply Kd.R_drewN | apply Kd.R_drew)); exact HO314.out))) (Kd.R_lt (by (with_reducible repeat (first | apply Kd.R_alloc | apply Kd.R_drewN | apply Kd.R_drew)); exact HO317.out))) (Kd.R_lt (by (with_reducible repeat (first | apply Kd.R_alloc | apply Kd.R_drewN | apply Kd.R_drew)); exact HO321.out))) (Kd.R_lt (by (with_reducible repeat (first | apply Kd.R_alloc | apply Kd.R_drewN | apply Kd.R_drew)); exact HO324.out))) (Kd.R_lt (by (with_reducible repeat (first | apply Kd.R_alloc | apply Kd.R_drewN | apply Kd.R_drew)); exact HO330.out))) (Kd.R_lt (by (with_reducible repeat (first | apply Kd.R_alloc | apply Kd.R_drewN | apply Kd.R_drew)); exact HO334.out))) (Kd.R_lt (by (with_reducible repeat (first | apply Kd.R_alloc | apply Kd.R_drewN | apply Kd.R_drew)); exact HO342.out))) (Kd.R_lt (by (with_reducible repeat (first | apply Kd.R_alloc | apply Kd.R_drewN | apply Kd.R_drew)); exact HO345.out))) (below_size (by repeat (first | (with_reducible first | exact HB.out | apply below_alloc | apply pw_below_drewN | apply below_drew1) | exact HB.out)))); have n9_ := Aside0.mk (below_step (by repeat (first | (with_reducible first | exact HB.out | apply below_alloc | apply pw_below_drewN | apply below_drew1) | exact HB.out)) hb); clear HO314; clear HO317; clear HO321; clear HO324; clear HO330; clear HO334; clear HO342; clear HO345; clear HB; have HO314 := n0_; have HO317 := n1_; have HO321 := n2_; have HO324 := n3_; have HO330 := n4_; have HO334 := n5_; have HO342 := n6_; have HO345 := n7_; have HO355 := n8_; have HB := n9_; clear n0_ n1_ n2_ n3_ n4_ n5_ n6_ n7_ n8_ n9_; (try clear hb); (try clear hb2); (try clear hk); (try clear hi); (try clear ho0)) | (go_at_call 31; (with_reducible refine (zigguratref01_Shl.calls k _ _ t319 (Int.tmod (wrap64 (rd l2 0)) 2001) t356 _ ?side1 ?side2 A45.out).mono ?_); (case side1 => repeat (first | exact (Kd.R_reads' HO321.out).2.2 | (with_reducible refine Kd.C_alloc ?_ _) | (with_reducible refine Kd.C_drewN ?_ _) | (with_reducible refine Kd.C_drew ?_))); (case side2 => exact (Kd.R_reads' HO321.out).2.1); rintro e w76 ⟨v357, rfl, ho0, hb⟩; have n0_ := Aside0.mk (Kd.R_elder' (by (with_reducible repeat (first | apply Kd.R_alloc | apply Kd.R_drewN | apply Kd.R_drew)); exact HO314.out) (Kd.R_base ho0) hb); have n1_ := Aside0.mk (Kd.R_elder' (by (with_reducible repeat (first | apply Kd.R_alloc | apply Kd.R_drewN | apply Kd.R_drew)); exact HO317.out) (Kd.R_base ho0) hb); have n2_ := Aside0.mk (Kd.R_elder' (by (with_reducible repeat (first | apply Kd.R_alloc | apply Kd.R_drewN | apply Kd.R_drew)); exact HO321.out) (Kd.R_base ho0) hb); have n3_ := Aside0.mk (Kd.R_elder' (by (with_reducible repeat (first | apply Kd.R_alloc | apply Kd.R_drewN | apply Kd.R_drew)); exact HO324.out) (Kd.R_base ho0) hb); have n4_ := Aside0.mk (Kd.R_elder' (by (with_reducible repeat (first | apply Kd.R_alloc | apply Kd.R_drewN | apply Kd.R_drew)); exact HO330.out) (Kd.R_base ho0) hb); have n5_ := Aside0.mk (Kd.R_elder' (by (with_reducible repeat (first | apply Kd.R_alloc | apply Kd.R_drewN | apply Kd.R_drew)); exact HO334.out) (Kd.R_base ho0) hb); have n6_ := Aside0.mk (Kd.R_elder' (by (with_reducible repeat (first | apply Kd.R_alloc | apply Kd.R_drewN | apply Kd.R_drew)); exact HO342.out) (Kd.R_base ho0) hb); have n7_ := Aside0.mk (Kd.R_elder' (by (with_reducible repeat (first | apply Kd.R_alloc | apply Kd.R_drewN | apply Kd.R_drew)); exact HO345.out) (Kd.R_base ho0) hb); have n8_ := Aside0.mk (Kd.R_elder' (by (with_reducible repeat (first | apply Kd.R_alloc | apply Kd.R_drewN | apply Kd.R_drew)); exact HO355.out) (Kd.R_base ho0) hb); have n9_ := Aside0.mk (Kd.R_lower (Kd.R_new' (Kd.R_new' (Kd.R_new' (Kd.R_new' (Kd.R_new' (Kd.R_new' (Kd.R_new' (Kd.R_new' (Kd.R_new' ho0 (Kd.R_lt (by (with_reducible repeat (first | apply Kd.R_alloc | apply Kd.R_drewN | apply Kd.R_drew)); exact HO314.out))) (Kd.R_lt (by (with_reducible repeat (first | apply Kd.R_alloc | apply Kd.R_drewN | apply Kd.R_drew)); exact HO317.out))) (Kd.R_lt (by (with_reducible repeat (first | apply Kd.R_alloc | apply Kd.R_drewN | apply Kd.R_drew)); exact HO321.out))) (Kd.R_lt (by (with_reducible repeat (first | apply Kd.R_alloc | apply Kd.R_drewN | apply Kd.R_drew)); exact HO324.out))) (Kd.R_lt (by (with_reducible repeat (first | apply Kd.R_alloc | apply Kd.R_drewN | apply Kd.R_drew)); exact HO330.out))) (Kd.R_lt (by (with_reducible repeat (first | apply Kd.R_alloc | apply Kd.R_drewN | apply Kd.R_drew)); exact HO334.out))) (Kd.R_lt (by (with_reducible repeat (first | apply Kd.R_alloc | apply Kd.R_drewN | apply Kd.R_drew)); exact HO342.out))) (Kd.R_lt (by (with_reducible repeat (first | apply Kd.R_alloc | apply Kd.R_drewN | apply Kd.R_drew)); exact HO345.out))) (Kd.R_lt (by (with_reducible repeat (first | apply Kd.R_alloc | apply Kd.R_drewN | apply Kd.R_drew)); exact HO355.out))) (below_size (by repeat (first | (with_reducible first | exact HB.out | apply below_alloc | apply pw_below_drewN | apply below_drew1) | exact HB.out)))); have n10_ := Aside0.mk (below_step (by repeat (first | (with_reducible first | exact HB.out | apply below_alloc | apply pw_below_drewN | apply below_drew1) | exact HB.out)) hb); clear HO314; clear HO317; clear HO321; clear HO324; clear HO330; clear HO334; clear HO342; clear HO345; clear HO355; clear HB; have HO314 := n0_; have HO317 := n1_; have HO321 := n2_; have HO324 := n3_; have HO330 := n4_; have HO334 := n5_; have HO342 := n6_; have HO345 := n7_; have HO355 := n8_; have HO358 := n9_; have HB := n10_; clear n0_ n1_ n2_ n3_ n4_ n5_ n6_ n7_ n8_ n9_ n10_; (try clear hb); (try clear hb2); (try clear hk); (try clear hi); (try clear ho0); obtain ⟨Ao77, co77, eo77⟩ := Kd.R_slice HO355.out; subst eo77; obtain ⟨Ao78, co78, eo78⟩ := Kd.R_slice HO358.out; subst eo78) | (go_at_call 15; (with_reducible refine (zigguratref01_Same.calls k _ _ t353 _ _ t356 true _ ?side1 ?side2 ?side3 ?side4 A46.out).mono ?_); (case side1 => repeat (first | exact (Kd.R_reads' HO355.out).2.2 | (with_reducible refine Kd.C_alloc ?_ _) | (with_reducible refine Kd.C_drewN ?_ _) | (with_reducible refine Kd.C_drew ?_))); (case side2 => exact (Kd.R_reads' HO355.out).2.1); (case side3 => repeat (first | exact (Kd.R_reads' HO358.out).2.2 | (with_reducible refine Kd.C_alloc ?_ _) | (with_reducible refine Kd.C_drewN ?_ _) | (with_reducible refine Kd.C_drew ?_))); (case side4 => exact (Kd.R_reads' HO358.out).2.1); rintro e w' ⟨rfl, ⟨nd, rfl⟩⟩) | (go_at_call 32; (with_reducible refine (nat_Shr.calls k _ _ t319 (Int.tmod (wrap64 (rd l2 0)) 2001) t360 _ ?side1 ?side2 A48.out).mono ?_); (case side1 => repeat (first | exact (Kd.R_reads' HO321.out).2.2 | (with_reducible refine Kd.C_alloc ?_ _) | (with_reducible refine Kd.C_drewN ?_ _) | (with_reducible refine Kd.C_drew ?_))); (case side2 => exact (Kd.R_reads' HO321.out).2.1); rintro e w79 ⟨v361, rfl, ho0, hb⟩; have n0_ := Aside0.mk (Kd.R_elder' (by (with_reducible repeat (first | apply Kd.R_alloc | apply Kd.R_drewN | apply Kd.R_drew)); exact HO314.out) (Kd.R_base ho0) hb); have n1_ := Aside0.mk (Kd.R_elder' (by (with_reducible repeat (first | apply Kd.R_alloc | apply Kd.R_drewN | apply Kd.R_drew)); exact HO317.out) (Kd.R_base ho0) hb); have n2_ := Aside0.mk (Kd.R_elder' (by (with_reducible repeat (first | apply Kd.R_alloc | apply Kd.R_drewN | apply Kd.R_drew)); exact HO321.out) (Kd.R_base ho0) hb); have n3_ := Aside0.mk (Kd.R_elder' (by (with_reducible repeat (first | apply Kd.R_alloc | apply Kd.R_drewN | apply Kd.R_drew)); exact HO324.out) (Kd.R_base ho0) hb); have n4_ := Aside0.mk (Kd.R_elder' (by (with_reducible repeat (first | apply Kd.R_alloc | apply Kd.R_drewN | apply Kd.R_drew)); exact HO330.out) (Kd.R_base ho0) hb); have n5_ := Aside0.mk (Kd.R_elder' (by (with_reducible repeat (first | apply Kd.R_alloc | apply Kd.R_drewN | apply Kd.R_drew)); exact HO334.out) (Kd.R_base ho0) hb); have n6_ := Aside0.mk (Kd.R_elder' (by (with_reducible repeat (first | apply Kd.R_alloc | apply Kd.R_drewN | apply Kd.R_drew)); exact HO342.out) (Kd.R_base ho0) hb); have n7_ := Aside0.mk (Kd.R_elder' (by (with_reducible repeat (first | apply Kd.R_alloc | apply Kd.R_drewN | apply Kd.R_drew)); exact HO345.out) (Kd.R_base ho0) hb); have n8_ := Aside0.mk (Kd.R_elder' (by (with_reducible repeat (first | apply Kd.R_alloc | apply Kd.R_drewN | apply Kd.R_drew)); exact HO355.out) (Kd.R_base ho0) hb); have n9_ := Aside0.mk (Kd.R_elder' (by (with_reducible repeat (first | apply Kd.R_alloc | apply Kd.R_drewN | apply Kd.R_drew)); exact HO358.out) (Kd.R_base ho0) hb); have n10_ := Aside0.mk (Kd.R_lower (Kd.R_new' (Kd.R_new' (Kd.R_new' (Kd.R_new' (Kd.R_new' (Kd.R_new' (Kd.R_new' (Kd.R_new' (Kd.R_new' (Kd.R_new' ho0 (Kd.R_lt (by (with_reducible repeat (first | apply Kd.R_alloc | apply Kd.R_drewN | apply Kd.R_drew)); exact HO314.out))) (Kd.R_lt (by (with_reducible repeat (first | apply Kd.R_alloc | apply Kd.R_drewN | apply Kd.R_drew)); exact HO317.out))) (Kd.R_lt (by (with_reducible repeat (first | apply Kd.R_alloc | apply Kd.R_drewN | apply Kd.R_drew)); exact HO321.out))) (Kd.R_lt (by (with_reducible repeat (first | apply Kd.R_alloc | apply Kd.R_drewN | apply Kd.R_drew)); exact HO324.out))) (Kd.R_lt (by (with_reducible repeat (first | apply Kd.R_alloc | apply Kd.R_drewN | apply Kd.R_drew)); exact HO330.out))) (Kd.R_lt (by (with_reducible repeat (first | apply Kd.R_alloc | apply Kd.R_drewN | apply Kd.R_drew)); exact HO334.out))) (Kd.R_lt (by (with_reducible repeat (first | apply Kd.R_alloc | apply Kd.R_drewN | apply Kd.R_drew)); exact HO342.out))) (Kd.R_lt (by (with_reducible repeat (first | apply Kd.R_alloc | apply Kd.R_drewN | apply Kd.R_drew)); exact HO345.out))) (Kd.R_lt (by (with_reducible repeat (first | apply Kd.R_alloc | apply Kd.R_drewN | apply Kd.R_drew)); exact HO355.out))) (Kd.R_lt (by (with_reducible repeat (first | apply Kd.R_alloc | apply Kd.R_drewN | apply Kd.R_drew)); exact HO358.out))) (below_size (by repeat (first | (with_reducible first | exact HB.out | apply below_alloc | apply pw_below_drewN | apply below_drew1) | exact HB.out)))); have n11_ := Aside0.mk (below_step (by repeat (first | (with_reducible first | exact HB.out | apply below_alloc | apply pw_below_drewN | apply below_drew1) | exact HB.out)) hb); clear HO314; clear HO317; clear HO321; clear HO324; clear HO330; clear HO334; clear HO342; clear HO345; clear HO355; clear HO358; clear HB; have HO314 := n0_; have HO317 := n1_; have HO321 := n2_; have HO324 := n3_; have HO330 := n4_; have HO334 := n5_; have HO342 := n6_; have HO345 := n7_; have HO355 := n8_; have HO358 := n9_; have HO362 := n10_; have HB := n11_; clear n0_ n1_ n2_ n3_ n4_ n5_ n6_ n7_ n8_ n9_ n10_ n11_; (try clear hb); (try clear hb2); (try clear hk); (try clear hi); (try clear ho0)) | (go_at_call 33; (with_reducible refine (zigguratref01_Shr.calls k _ _ t319 (Int.tmod (wrap64 (rd l2 0)) 2001) t363 _ ?side1 ?side2 A49.out).mono ?_); (case side1 => repeat (first | exact (Kd.R_reads' HO321.out).2.2 | (with_reducible refine Kd.C_alloc ?_ _) | (with_reducible refine Kd.C_drewN ?_ _) | (with_reducible refine Kd.C_drew ?_))); (case side2 => exact (Kd.R_reads' HO321.out).2.1); rintro e w80 ⟨v364, rfl, ho0, hb⟩; have n0_ := Aside0.mk (Kd.R_elder' (by (with_reducible repeat (first | apply Kd.R_alloc | apply Kd.R_drewN | apply Kd.R_drew)); exact HO314.out) (Kd.R_base ho0) hb); have n1_ := Aside0.mk (Kd.R_elder' (by (with_reducible repeat (first | apply Kd.R_alloc | apply Kd.R_drewN | apply Kd.R_drew)); exact HO317.out) (Kd.R_base ho0) hb); have n2_ := Aside0.mk (Kd.R_elder' (by (with_reducible repeat (first | apply Kd.R_alloc | apply Kd.R_drewN | apply Kd.R_drew)); exact HO321.out) (Kd.R_base ho0) hb); have n3_ := Aside0.mk (Kd.R_elder' (by (with_reducible repeat (first | apply Kd.R_alloc | apply Kd.R_drewN | apply Kd.R_drew)); exact HO324.out) (Kd.R_base ho0) hb); have n4_ := Aside0.mk (Kd.R_elder' (by (with_reducible repeat (first | apply Kd.R_alloc | apply Kd.R_drewN | apply Kd.R_drew)); exact HO330.out) (Kd.R_base ho0) hb); have n5_ := Aside0.mk (Kd.R_elder' (by (with_reducible repeat (first | apply Kd.R_alloc | apply Kd.R_drewN | apply Kd.R_drew)); exact HO334.out) (Kd.R_base ho0) hb); have n6_ := Aside0.mk (Kd.R_elder' (by (with_reducible repeat (first | apply Kd.R_alloc | apply Kd.R_drewN | apply Kd.R_drew)); exact HO342.out) (Kd.R_base ho0) hb); have n7_ := Aside0.mk (Kd.R_elder' (by (with_reducible repeat (first | apply Kd.R_alloc | apply Kd.R_drewN | apply Kd.R_drew)); exact HO345.out) (Kd.R_base ho0) hb); have n8_ := Aside0.mk (Kd.R_elder' (by (with_reducible repeat (first | apply Kd.R_alloc | apply Kd.R_drewN | apply Kd.R_drew)); exact HO355.out) (Kd.R_base ho0) hb); have n9_ := Aside0.mk (Kd.R_elder' (by (with_reducible repeat (first | apply Kd.R_alloc | apply Kd.R_drewN | apply Kd.R_drew)); exact HO358.out) (Kd.R_base ho0) hb); have n10_ := Aside0.mk (Kd.R_elder' (by (with_reducible repeat (first | apply Kd.R_alloc | apply Kd.R_drewN | apply Kd.R_drew)); exact HO362.out) (Kd.R_base ho0) hb); have n11_ := Aside0.mk (Kd.R_lower (Kd.R_new' (Kd.R_new' (Kd.R_new' (Kd.R_new' (Kd.R_new' (Kd.R_new' (Kd.R_new' (Kd.R_new' (Kd.R_new' (Kd.R_new' (Kd.R_new' ho0 (Kd.R_lt (by (with_reducible repeat (first | apply Kd.R_alloc | apply Kd.R_drewN | apply Kd.R_drew)); exact HO314.out))) (Kd.R_lt (by (with_reducible repeat (first | apply Kd.R_alloc | apply Kd.R_drewN | apply Kd.R_drew)); exact HO317.out))) (Kd.R_lt (by (with_reducible repeat (first | apply Kd.R_alloc | apply Kd.R_drewN | apply Kd.R_drew)); exact HO321.out))) (Kd.R_lt (by (with_reducible repeat (first | apply Kd.R_alloc | apply Kd.R_drewN | apply Kd.R_drew)); exact HO324.out))) (Kd.R_lt (by (with_reducible repeat (first | apply Kd.R_alloc | apply Kd.R_drewN | apply Kd.R_drew)); exact HO330.out))) (Kd.R_lt (by (with_reducible repeat (first | apply Kd.R_alloc | apply Kd.R_drewN | apply Kd.R_drew)); exact HO334.out))) (Kd.R_lt (by (with_reducible repeat (first | apply Kd.R_alloc | apply Kd.R_drewN | apply Kd.R_drew)); exact HO342.out))) (Kd.R_lt (by (with_reducible repeat (first | apply Kd.R_alloc | apply Kd.R_drewN | apply Kd.R_drew)); exact HO345.out))) (Kd.R_lt (by (with_reducible repeat (first | apply Kd.R_alloc | apply Kd.R_drewN | apply Kd.R_drew)); exact HO355.out))) (Kd.R_lt (by (with_reducible repeat (first | apply Kd.R_alloc | apply Kd.R_drewN | apply Kd.R_drew)); exact HO358.out))) (Kd.R_lt (by (with_reducible repeat (first | apply Kd.R_alloc | apply Kd.R_drewN | apply Kd.R_drew)); exact HO362.out))) (below_size (by repeat (first | (with_reducible first | exact HB.out | apply below_alloc | apply pw_below_drewN | apply below_drew1) | exact HB.out)))); have n12_ := Aside0.mk (below_step (by repeat (first | (with_reducible first | exact HB.out | apply below_alloc | apply pw_below_drewN | apply below_drew1) | exact HB.out)) hb); clear HO314; clear HO317; clear HO321; clear HO324; clear HO330; clear HO334; clear HO342; clear HO345; clear HO355; clear HO358; clear HO362; clear HB; have HO314 := n0_; have HO317 := n1_; have HO321 := n2_; have HO324 := n3_; have HO330 := n4_; have HO334 := n5_; have HO342 := n6_; have HO345 := n7_; have HO355 := n8_; have HO358 := n9_; have HO362 := n10_; have HO365 := n11_; have HB := n12_; clear n0_ n1_ n2_ n3_ n4_ n5_ n6_ n7_ n8_ n9_ n10_ n11_ n12_; (try clear hb); (try clear hb2); (try clear hk); (try clear hi); (try clear ho0); obtain ⟨Ao81, co81, eo81⟩ := Kd.R_slice HO362.out; subst eo81; obtain ⟨Ao82, co82, eo82⟩ := Kd.R_slice HO365.out; subst eo82) | (go_at_call 15; (with_reducible refine (zigguratref01_Same.calls k _ _ t360 _ _ t363 true _ ?side1 ?side2 ?side3 ?side4 A50.out).mono ?_); (case side1 => repeat (first | exact (Kd.R_reads' HO362.out).2.2 | (with_reducible refine Kd.C_alloc ?_ _) | (with_reducible refine Kd.C_drewN ?_ _) | (with_reducible refine Kd.C_drew ?_))); (case side2 => exact (Kd.R_reads' HO362.out).2.1); (case side3 => repeat (first | exact (Kd.R_reads' HO365.out).2.2 | (with_reducible refine Kd.C_alloc ?_ _) | (with_reducible refine Kd.C_drewN ?_ _) | (with_reducible refine Kd.C_drew ?_))); (case side4 => exact (Kd.R_reads' HO365.out).2.1); rintro e w' ⟨rfl, ⟨nd, rfl⟩⟩))
                                      go_ret
                                      exact ⟨by first | rfl | (simp [errW_none, errW_some] <;> rfl) | (simp only [← hji5, ← hji8]; first | rfl | (simp [errW_none, errW_some] <;> rfl)) | (simp [*, errW_none, errW_some] <;> rfl), below_step HW.out (by repeat (first | (with_reducible first | exact HB.out | apply below_alloc | apply pw_below_drewN | apply below_drew1) | exact HB.out))⟩
                                    · replace c51 := Bool.eq_false_iff.mpr c51
                                      subst c51
                                      have H1 : (none) = some r := by rw [if_neg (show ¬ (false = true) by decide)] at H; exact H
                                      clear H
                                      have H := H1
                                      clear H1
                                      exact absurd H (by simp)
                                  · replace c47 := Bool.eq_false_iff.mpr c47
                                    subst c47
                                    have H1 : (none) = some r := by rw [if_neg (show ¬ (false = true) by decide)] at H; exact H
                                    clear H
                                    have H := H1
                                    clear H1
                                    exact absurd H (by simp)
                                · rw [if_neg c43] at H
                                  exact absurd H (by simp)
                              · rw [if_neg c40] at H
                                exact absurd H (by simp)
                            · rw [if_neg c37] at H
                              exact absurd H (by simp)
                          · replace c34 := Bool.eq_false_iff.mpr c34
                            subst c34
                            have H1 : (none) = some r := by rw [if_neg (show ¬ (false = true) by decide)] at H; exact H
                            clear H
                            have H := H1
                            clear H1
                            exact absurd H (by simp)
                        · rw [if_neg c30] at H
                          exact absurd H (by simp)
                      · rw [if_neg c29] at H
                        exact absurd H (by simp)
                    · rw [if_neg c28] at H
                      exact absurd H (by simp)
                  · replace c27 := Bool.eq_false_iff.mpr c27
                    subst c27
                    have H1 : (none) = some r := by rw [if_neg (show ¬ (false = true) by decide)] at H; exact H
                    clear H
                    have H := H1
                    clear H1
                    exact absurd H (by simp)
                · rw [if_neg c21] at H
                  exact absurd H (by simp)
              · rw [if_neg c20] at H
                exact absurd H (by simp)
            · replace c17 := Bool.eq_false_iff.mpr c17
              subst c17
              have H1 : (none) = some r := by rw [if_neg (show ¬ (false = true) by decide)] at H; exact H
              clear H
              have H := H1
              clear H1
              exact absurd H (by simp)
        · rw [if_neg c10] at H
          exact absurd H (by simp)
      · rw [if_neg c9] at H
        exact absurd H (by simp)
    · rw [if_neg c7] at H
      exact absurd H (by simp)
  · rw [if_neg c6] at H
    exact absurd H (by simp)


end Go.Proofs.Ytplkofflhacehaa.Q
