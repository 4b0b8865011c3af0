-- Written by a program of this session (a patched print) for this claim; Lean checks it.
import Derived.Test.YtkeegknadegaaaaDoorQ0
import Derived.Test.YtkeegknadegaaaaDoorHRep
import Derived.Test.YtkeegknadegaaaaDoorHApp
import Derived.Test.YtkeegknadegaaaaDoorQ5
import Derived.Test.YtkeegknadegaaaaDoorQ7
import Derived.Test.YtkeegknadegaaaaDoorQ21
namespace Go.Proofs.YtkeegknadegaaaaDoor.Q
open Go.RowKit Go.Proofs.YtkeegknadegaaaaDoorW.PrintWords Go.Proofs.YtkeegknadegaaaaDoorW.PrintLast Go.Proofs.YtkeegknadegaaaaDoorW.PrintMore
attribute [local go_sem] max2_int min2_int max_two min_two max_three min_three max_four min_four   -- for this text's walks alone
set_option linter.unusedVariables false
set_option linter.unusedSimpArgs false

/-! ### zigguratlaw30_StoreMended: function 8 -/
def zigguratlaw30_StoreMended.f (k : Nat) (l0 : List Int) (a1_0 : ByteArray) (a1_1 : ByteArray) : Option (Bool) := (zigguratlaw30_head.f k).bind fun t335 => (if (l0.length : Int) > 3000 then (some t335) else ((zigguratref30_Made.f k (([(⟨a1_0, a1_1⟩ : S24)] : List (S24))) 1).bind fun t339 => ((store_Read.f l0).bind fun bt342 => ((store_Repair.f l0).bind fun t347 => ((store_Read.f t347).bind fun bt350 => (if 0 < (t339.length : Int) then ((store_Append.f t347 ((rd_T24 t339 0).f0) ((rd_T24 t339 0).f1)).bind fun bt356 => ((store_Read.f bt356.1).bind fun bt360 => ((some (([] : List (S24)) : List (S24))).bind fun y365 => (if y365.length + bt342.1.length < 4398046511104 then ((some (y365 ++ bt342.1 : List (S24))).bind fun y368 => (if y368.length < 4398046511104 then (if t335 = true then (if (t347.length : Int) = bt342.2.1 then (if bt350.2.1 = bt342.2.1 then (if bt350.2.2 = 0 then ((zigguratref30_Same.f k bt342.1 bt350.1).bind fun t375 => (if t375 = true then (if bt356.2 = 0 then (if bt360.2.2 = 0 then ((zigguratref30_Same.f k bt360.1 (y368 ++ [(⟨(rd_T24 t339 0).f0, (rd_T24 t339 0).f1⟩ : S24)])).bind fun t376 => (if t376 = true then ((store_Repair.f t347).bind fun t377 => (some ((strOfNums t377).toList == (strOfNums t347).toList))) else (none))) else (none)) else (none)) else (none))) else (none)) else (none)) else (none)) else (none)) else (none))) else (none))))) else (none)))))))
theorem zigguratlaw30_StoreMended.mono : ∀ a0 a1 a2 k, LeO (zigguratlaw30_StoreMended.f k a0 a1 a2) (zigguratlaw30_StoreMended.f (k + 1) a0 a1 a2) := by
  intro a0 a1 a2 k
  unfold zigguratlaw30_StoreMended.f
  repeat' first
      | (with_reducible exact zigguratlaw30_head.mono _)
      | (with_reducible exact zigguratref30_Made.mono _ _ _)
      | (with_reducible exact zigguratref30_Same.mono _ _ _)
      | (with_reducible exact LeO.refl _)
      | (with_reducible exact LeO.none _)
      | (with_reducible refine LeO.ite ?_ ?_)
      | (with_reducible refine LeO.bind ?_ (fun _ => ?_))
      | exact zigguratlaw30_head.mono _
      | exact zigguratref30_Made.mono _ _ _
      | exact zigguratref30_Same.mono _ _ _
      | exact LeO.none _
      | refine LeO.ite ?_ ?_
      | refine LeO.bind ?_ (fun _ => ?_)
def zigguratlaw30_StoreMended.T12 : Bool × List (List Nat × List Nat) := (true, [([], []), ([0], [0]), ([1], [1]), ([2, 1], [1, 2]), ([1], [1]), ([3, 4, 1], [1, 3, 4]), ([1, 5], [1, 5]), ([6, 1], [6]), ([7], [7]), ([7], [7]), ([8, 9, 7], [7, 8, 9]), ([7, 10], [7, 10]), ([11, 7], [11]), ([12], [12]), ([13, 12], [12, 13]), ([12, 14], [12, 14]), ([15, 12], [15]), ([16], [16]), ([16], [16]), ([17, 18, 16, 16], [16, 17, 18]), ([16, 19], [16, 19]), ([20, 19], [20]), ([21], [21]), ([22, 21], [21, 22]), ([21, 23], [21, 23]), ([24, 21], [24]), ([25], [25]), ([26, 25], [25, 26]), ([25, 27], [25, 27]), ([28, 25], [28]), ([29], [29]), ([29], [29]), ([30, 31, 29, 29], [29, 30, 31]), ([29, 32], [29, 32]), ([33, 32], [33]), ([34], [34]), ([35, 34, 34], [34, 35]), ([36, 34], [34, 36]), ([34], [34]), ([38, 34], [34, 38]), ([37, 39, 34], [34, 37, 39]), ([34, 40], [34, 40]), ([41, 36, 0, 1, 2, 3, 4, 5, 6, 7, 8, 9, 10, 11, 12, 13, 14, 15, 16, 17, 18, 19, 20, 21, 22, 23, 24, 25, 26, 27, 28, 29, 30, 31, 32, 33, 34, 35, 36, 37, 38, 39, 40, 41], [41])])
def zigguratlaw30_StoreMended.B12 : List Nat := [0, 1, 3, 7, 3, 31, 63, 127, 255, 255, 1023, 2047, 4095, 8191, 16383, 32767, 65535, 131071, 131071, 524287, 1048575, 2097151, 4194303, 8388607, 16777215, 33554431, 67108863, 134217727, 268435455, 536870911, 1073741823, 1073741823, 4294967295, 8589934591, 17179869183, 34359738367, 68719476735, 137438953471, 34359738367, 309237645311, 1099511627775, 2199023255551, 4398046511103]
theorem zigguratlaw30_StoreMended.tab12 : rtab .any (opsOf Tryd.f8 12) = zigguratlaw30_StoreMended.T12 := by kernel_rfl
theorem zigguratlaw30_StoreMended.bits12 : waitsOk zigguratlaw30_StoreMended.T12.2 zigguratlaw30_StoreMended.B12 = true := by kernel_rfl
set_option maxHeartbeats 8000000 in
set_option maxRecDepth 100000 in
theorem zigguratlaw30_StoreMended.calls (k : Nat) (A0 : Option Addr) (c0 : Nat) (l0 : List Int) (a1_0 : ByteArray) (a1_1 : ByteArray) (r : Bool) (w : World) (hr0 : Kd.C (Kd.int .u8) w A0 l0.length l0) (hc0 : l0.length ≤ c0) (hg : GOK w) (h : zigguratlaw30_StoreMended.f k l0 a1_0 a1_1 = some r) :
    Calls Tryd.prog 8 #[.slice A0 l0.length c0, .agg #[.string a1_0, .string a1_1]] w fun e w' => e = .returned (.bool r) ∧ Below w.heap.size w w' := by
  have HG := Aside0.mk hg
  clear hg
  have hu24 := Tryd.underlying24
  have HR0 := Aside0.mk hr0
  have HC0 := Aside0.mk hc0
  clear hr0 hc0
  have HB := Aside0.mk (Below.refl w.heap.size w)
  have H : ((zigguratlaw30_head.f k).bind fun t335 => (if (l0.length : Int) > 3000 then (some t335) else ((zigguratref30_Made.f k (([(⟨a1_0, a1_1⟩ : S24)] : List (S24))) 1).bind fun t339 => ((store_Read.f l0).bind fun bt342 => ((store_Repair.f l0).bind fun t347 => ((store_Read.f t347).bind fun bt350 => (if 0 < (t339.length : Int) then ((store_Append.f t347 ((rd_T24 t339 0).f0) ((rd_T24 t339 0).f1)).bind fun bt356 => ((store_Read.f bt356.1).bind fun bt360 => ((some (([] : List (S24)) : List (S24))).bind fun y365 => (if y365.length + bt342.1.length < 4398046511104 then ((some (y365 ++ bt342.1 : List (S24))).bind fun y368 => (if y368.length < 4398046511104 then (if t335 = true then (if (t347.length : Int) = bt342.2.1 then (if bt350.2.1 = bt342.2.1 then (if bt350.2.2 = 0 then ((zigguratref30_Same.f k bt342.1 bt350.1).bind fun t375 => (if t375 = true then (if bt356.2 = 0 then (if bt360.2.2 = 0 then ((zigguratref30_Same.f k bt360.1 (y368 ++ [(⟨(rd_T24 t339 0).f0, (rd_T24 t339 0).f1⟩ : S24)])).bind fun t376 => (if t376 = true then ((store_Repair.f t347).bind fun t377 => (some ((strOfNums t377).toList == (strOfNums t347).toList))) else (none))) else (none)) else (none)) else (none))) else (none)) else (none)) else (none)) else (none)) else (none))) else (none))))) else (none)))))))) = some r := h
  clear h
  replace H := Option.bind_eq_some_iff.mp H
  obtain ⟨t335, A30, H⟩ := H
  replace H : (if (l0.length : Int) > 3000 then (some t335) else ((zigguratref30_Made.f k (([(⟨a1_0, a1_1⟩ : S24)] : List (S24))) 1).bind fun t339 => ((store_Read.f l0).bind fun bt342 => ((store_Repair.f l0).bind fun t347 => ((store_Read.f t347).bind fun bt350 => (if 0 < (t339.length : Int) then ((store_Append.f t347 ((rd_T24 t339 0).f0) ((rd_T24 t339 0).f1)).bind fun bt356 => ((store_Read.f bt356.1).bind fun bt360 => ((some (([] : List (S24)) : List (S24))).bind fun y365 => (if y365.length + bt342.1.length < 4398046511104 then ((some (y365 ++ bt342.1 : List (S24))).bind fun y368 => (if y368.length < 4398046511104 then (if t335 = true then (if (t347.length : Int) = bt342.2.1 then (if bt350.2.1 = bt342.2.1 then (if bt350.2.2 = 0 then ((zigguratref30_Same.f k bt342.1 bt350.1).bind fun t375 => (if t375 = true then (if bt356.2 = 0 then (if bt360.2.2 = 0 then ((zigguratref30_Same.f k bt360.1 (y368 ++ [(⟨(rd_T24 t339 0).f0, (rd_T24 t339 0).f1⟩ : S24)])).bind fun t376 => (if t376 = true then ((store_Repair.f t347).bind fun t377 => (some ((strOfNums t377).toList == (strOfNums t347).toList))) else (none))) else (none)) else (none)) else (none))) else (none)) else (none)) else (none)) else (none)) else (none))) else (none))))) else (none))))))) = some r := H
  have A3 := Aside0.mk A30
  clear A30
  by_cases c4 : (l0.length : Int) > 3000
  · rw [if_pos c4] at H
    have c4b0 : decide (3000 < (l0.length : Int)) = true := decide_eq_true c4
    have c4b1 : decide (3000 < l0.length) = true := decide_eq_true (by omega)
    clear c4
    obtain rfl := Option.some.inj H
    go_enter Tryd.func8, Tryd.ntmps8
    (try simp only [List.append])
    go_wp2_with (first | ((with_reducible refine gate_dst (N := 3) rfl ?_); (try (refine gate_guard (by rfl) ?_; dsimp only)); refine box_event ?hg (N := 3) ?hd (cs := #[.string a1_0, .string a1_1]) (t := 24) ?hr ?_; (case hd => rfl); (case hg => rfl); (case hr => first | (go_simp; done) | (go_simp; rfl)); intro gb334 hg w5 hbox hb; have n0_ := Aside0.mk (below_step (by repeat (first | (with_reducible first | exact HB.out | apply below_alloc | apply pw_below_drewN | apply below_drew1) | exact HB.out)) hb); have n1_ := Aside0.mk (hbox); have n2_ := Aside0.mk ((by rw [hg]; exact (below_size (by repeat (first | (with_reducible first | exact HB.out | apply below_alloc | apply pw_below_drewN | apply below_drew1) | exact HB.out))) : w.heap.size ≤ gb334)); have n3_ := Aside0.mk ((by rw [hg]; exact (below_size (by repeat (first | (with_reducible first | exact HB.out | apply below_alloc | apply pw_below_drewN | apply below_drew1) | exact HB.out))) : w.heap.size ≤ gb334)); clear HB; have HB := n0_; have BK334 := n1_; have GW334 := n2_; have GE334 := n3_; clear n0_ n1_ n2_ n3_; clear hb hbox hg) | ((with_reducible refine gate_callee (f := 11) rfl ?_); refine goesL_ (some 20) rfl rfl Tryd.func11 (by kernel_rfl) rfl #[] rfl (by (try simp only [List.map_toArray, List.map_cons, List.map_nil]); first | done | rfl | (simp only [List.length_drop, List.length_take]; rfl)) ?_; (with_reducible refine (zigguratlaw30_head.calls k  t335 _ ?side0 A3.out).mono ?_); (case side0 => exact GOK.below HG.out (by repeat (first | (with_reducible first | exact HB.out | apply below_alloc | apply pw_below_drewN | apply below_drew1) | exact HB.out))); rintro e w6 ⟨rfl, hb⟩; refine ⟨_, rfl, ?_⟩; have n0_ := Aside0.mk (blk_below (g := gb334) (o := .cells #[.string a1_0, .string a1_1] 24 (0, 0)) (by (with_reducible repeat (first | refine blk_drewN ?_ _ | refine blk_drew ?_ | refine blk_alloc ?_ _)); exact BK334.out) hb); have n1_ := Aside0.mk (below_step (by repeat (first | (with_reducible first | exact HB.out | apply below_alloc | apply pw_below_drewN | apply below_drew1 | refine below_set ?_ GE334.out) | exact HB.out)) hb); clear BK334; clear HB; have BK334 := n0_; have HB := n1_; clear n0_ n1_; (try clear hb); (try clear hb2); (try clear hk); (try clear hi)))
    go_ret
    exact ⟨by first | rfl | (simp [errW_none, errW_some] <;> rfl) | (simp [*, errW_none, errW_some] <;> rfl), by repeat (first | (with_reducible first | exact HB.out | apply below_alloc | apply pw_below_drewN | apply below_drew1 | refine below_set ?_ GE334.out) | exact HB.out)⟩
  · rw [if_neg c4] at H
    have c4b0 : decide (3000 < (l0.length : Int)) = false := decide_eq_false c4
    have c4b1 : decide (3000 < l0.length) = false := decide_eq_false (by omega)
    clear c4
    obtain ⟨y336, hy336⟩ : ∃ y_ : List (S24), y_ = (([(⟨a1_0, a1_1⟩ : S24)] : List (S24))) := ⟨_, rfl⟩
    replace H : ((zigguratref30_Made.f k y336 1).bind fun t339 => ((store_Read.f l0).bind fun bt342 => ((store_Repair.f l0).bind fun t347 => ((store_Read.f t347).bind fun bt350 => (if 0 < (t339.length : Int) then ((store_Append.f t347 ((rd_T24 t339 0).f0) ((rd_T24 t339 0).f1)).bind fun bt356 => ((store_Read.f bt356.1).bind fun bt360 => ((some (([] : List (S24)) : List (S24))).bind fun y365 => (if y365.length + bt342.1.length < 4398046511104 then ((some (y365 ++ bt342.1 : List (S24))).bind fun y368 => (if y368.length < 4398046511104 then (if t335 = true then (if (t347.length : Int) = bt342.2.1 then (if bt350.2.1 = bt342.2.1 then (if bt350.2.2 = 0 then ((zigguratref30_Same.f k bt342.1 bt350.1).bind fun t375 => (if t375 = true then (if bt356.2 = 0 then (if bt360.2.2 = 0 then ((zigguratref30_Same.f k bt360.1 (y368 ++ [(⟨(rd_T24 t339 0).f0, (rd_T24 t339 0).f1⟩ : S24)])).bind fun t376 => (if t376 = true then ((store_Repair.f t347).bind fun t377 => (some ((strOfNums t377).toList == (strOfNums t347).toList))) else (none))) else (none)) else (none)) else (none))) else (none)) else (none)) else (none)) else (none)) else (none))) else (none))))) else (none)))))) = some r := by first | (rw [hy336]; with_reducible exact H) | (have H2_ := (Option.bind_some _ _).symm.trans H; rw [hy336]; with_reducible exact H2_) | (have H2_ := (Option.bind_some _ _).symm.trans H; with_reducible exact H2_) | with_reducible exact H | (rw [hy336]; exact H) | exact H
    have Ny336 := Aside0.mk hy336
    clear hy336
    replace H := Option.bind_eq_some_iff.mp H
    obtain ⟨t339, A70, H⟩ := H
    replace H : ((store_Read.f l0).bind fun bt342 => ((store_Repair.f l0).bind fun t347 => ((store_Read.f t347).bind fun bt350 => (if 0 < (t339.length : Int) then ((store_Append.f t347 ((rd_T24 t339 0).f0) ((rd_T24 t339 0).f1)).bind fun bt356 => ((store_Read.f bt356.1).bind fun bt360 => ((some (([] : List (S24)) : List (S24))).bind fun y365 => (if y365.length + bt342.1.length < 4398046511104 then ((some (y365 ++ bt342.1 : List (S24))).bind fun y368 => (if y368.length < 4398046511104 then (if t335 = true then (if (t347.length : Int) = bt342.2.1 then (if bt350.2.1 = bt342.2.1 then (if bt350.2.2 = 0 then ((zigguratref30_Same.f k bt342.1 bt350.1).bind fun t375 => (if t375 = true then (if bt356.2 = 0 then (if bt360.2.2 = 0 then ((zigguratref30_Same.f k bt360.1 (y368 ++ [(⟨(rd_T24 t339 0).f0, (rd_T24 t339 0).f1⟩ : S24)])).bind fun t376 => (if t376 = true then ((store_Repair.f t347).bind fun t377 => (some ((strOfNums t377).toList == (strOfNums t347).toList))) else (none))) else (none)) else (none)) else (none))) else (none)) else (none)) else (none)) else (none)) else (none))) else (none))))) else (none))))) = some r := H
    have A7 := Aside0.mk A70
    clear A70
    replace H := Option.bind_eq_some_iff.mp H
    obtain ⟨⟨t342, t343, t344⟩, A80, H⟩ := H
    replace H : ((store_Repair.f l0).bind fun t347 => ((store_Read.f t347).bind fun bt350 => (if 0 < (t339.length : Int) then ((store_Append.f t347 ((rd_T24 t339 0).f0) ((rd_T24 t339 0).f1)).bind fun bt356 => ((store_Read.f bt356.1).bind fun bt360 => ((some (([] : List (S24)) : List (S24))).bind fun y365 => (if y365.length + t342.length < 4398046511104 then ((some (y365 ++ t342 : List (S24))).bind fun y368 => (if y368.length < 4398046511104 then (if t335 = true then (if (t347.length : Int) = t343 then (if bt350.2.1 = t343 then (if bt350.2.2 = 0 then ((zigguratref30_Same.f k t342 bt350.1).bind fun t375 => (if t375 = true then (if bt356.2 = 0 then (if bt360.2.2 = 0 then ((zigguratref30_Same.f k bt360.1 (y368 ++ [(⟨(rd_T24 t339 0).f0, (rd_T24 t339 0).f1⟩ : S24)])).bind fun t376 => (if t376 = true then ((store_Repair.f t347).bind fun t377 => (some ((strOfNums t377).toList == (strOfNums t347).toList))) else (none))) else (none)) else (none)) else (none))) else (none)) else (none)) else (none)) else (none)) else (none))) else (none))))) else (none)))) = some r := H
    have A8 := Aside0.mk A80
    clear A80
    replace H := Option.bind_eq_some_iff.mp H
    obtain ⟨t347, A90, H⟩ := H
    replace H : ((store_Read.f t347).bind fun bt350 => (if 0 < (t339.length : Int) then ((store_Append.f t347 ((rd_T24 t339 0).f0) ((rd_T24 t339 0).f1)).bind fun bt356 => ((store_Read.f bt356.1).bind fun bt360 => ((some (([] : List (S24)) : List (S24))).bind fun y365 => (if y365.length + t342.length < 4398046511104 then ((some (y365 ++ t342 : List (S24))).bind fun y368 => (if y368.length < 4398046511104 then (if t335 = true then (if (t347.length : Int) = t343 then (if bt350.2.1 = t343 then (if bt350.2.2 = 0 then ((zigguratref30_Same.f k t342 bt350.1).bind fun t375 => (if t375 = true then (if bt356.2 = 0 then (if bt360.2.2 = 0 then ((zigguratref30_Same.f k bt360.1 (y368 ++ [(⟨(rd_T24 t339 0).f0, (rd_T24 t339 0).f1⟩ : S24)])).bind fun t376 => (if t376 = true then ((store_Repair.f t347).bind fun t377 => (some ((strOfNums t377).toList == (strOfNums t347).toList))) else (none))) else (none)) else (none)) else (none))) else (none)) else (none)) else (none)) else (none)) else (none))) else (none))))) else (none))) = some r := H
    have A9 := Aside0.mk A90
    clear A90
    replace H := Option.bind_eq_some_iff.mp H
    obtain ⟨⟨t350, t351, t352⟩, A100, H⟩ := H
    replace H : (if 0 < (t339.length : Int) then ((store_Append.f t347 ((rd_T24 t339 0).f0) ((rd_T24 t339 0).f1)).bind fun bt356 => ((store_Read.f bt356.1).bind fun bt360 => ((some (([] : List (S24)) : List (S24))).bind fun y365 => (if y365.length + t342.length < 4398046511104 then ((some (y365 ++ t342 : List (S24))).bind fun y368 => (if y368.length < 4398046511104 then (if t335 = true then (if (t347.length : Int) = t343 then (if t351 = t343 then (if t352 = 0 then ((zigguratref30_Same.f k t342 t350).bind fun t375 => (if t375 = true then (if bt356.2 = 0 then (if bt360.2.2 = 0 then ((zigguratref30_Same.f k bt360.1 (y368 ++ [(⟨(rd_T24 t339 0).f0, (rd_T24 t339 0).f1⟩ : S24)])).bind fun t376 => (if t376 = true then ((store_Repair.f t347).bind fun t377 => (some ((strOfNums t377).toList == (strOfNums t347).toList))) else (none))) else (none)) else (none)) else (none))) else (none)) else (none)) else (none)) else (none)) else (none))) else (none))))) else (none)) = some r := H
    have A10 := Aside0.mk A100
    clear A100
    by_cases c11 : 0 < (t339.length : Int)
    · rw [if_pos c11] at H
      have c11b0 : decide (0 < (t339.length : Int)) = true := decide_eq_true c11
      have c11b1 : decide (0 < t339.length) = true := decide_eq_true (by omega)
      clear c11
      replace H := Option.bind_eq_some_iff.mp H
      obtain ⟨⟨t356, t359⟩, A120, H⟩ := H
      replace H : ((store_Read.f t356).bind fun bt360 => ((some (([] : List (S24)) : List (S24))).bind fun y365 => (if y365.length + t342.length < 4398046511104 then ((some (y365 ++ t342 : List (S24))).bind fun y368 => (if y368.length < 4398046511104 then (if t335 = true then (if (t347.length : Int) = t343 then (if t351 = t343 then (if t352 = 0 then ((zigguratref30_Same.f k t342 t350).bind fun t375 => (if t375 = true then (if t359 = 0 then (if bt360.2.2 = 0 then ((zigguratref30_Same.f k bt360.1 (y368 ++ [(⟨(rd_T24 t339 0).f0, (rd_T24 t339 0).f1⟩ : S24)])).bind fun t376 => (if t376 = true then ((store_Repair.f t347).bind fun t377 => (some ((strOfNums t377).toList == (strOfNums t347).toList))) else (none))) else (none)) else (none)) else (none))) else (none)) else (none)) else (none)) else (none)) else (none))) else (none)))) = some r := H
      have A12 := Aside0.mk A120
      clear A120
      replace H := Option.bind_eq_some_iff.mp H
      obtain ⟨⟨t360, t361, t362⟩, A130, H⟩ := H
      replace H : ((some (([] : List (S24)) : List (S24))).bind fun y365 => (if y365.length + t342.length < 4398046511104 then ((some (y365 ++ t342 : List (S24))).bind fun y368 => (if y368.length < 4398046511104 then (if t335 = true then (if (t347.length : Int) = t343 then (if t351 = t343 then (if t352 = 0 then ((zigguratref30_Same.f k t342 t350).bind fun t375 => (if t375 = true then (if t359 = 0 then (if t362 = 0 then ((zigguratref30_Same.f k t360 (y368 ++ [(⟨(rd_T24 t339 0).f0, (rd_T24 t339 0).f1⟩ : S24)])).bind fun t376 => (if t376 = true then ((store_Repair.f t347).bind fun t377 => (some ((strOfNums t377).toList == (strOfNums t347).toList))) else (none))) else (none)) else (none)) else (none))) else (none)) else (none)) else (none)) else (none)) else (none))) else (none))) = some r := H
      have A13 := Aside0.mk A130
      clear A130
      obtain ⟨y365, hy365⟩ : ∃ y_ : List (S24), y_ = (([] : List (S24))) := ⟨_, rfl⟩
      replace H : (if y365.length + t342.length < 4398046511104 then ((some (y365 ++ t342 : List (S24))).bind fun y368 => (if y368.length < 4398046511104 then (if t335 = true then (if (t347.length : Int) = t343 then (if t351 = t343 then (if t352 = 0 then ((zigguratref30_Same.f k t342 t350).bind fun t375 => (if t375 = true then (if t359 = 0 then (if t362 = 0 then ((zigguratref30_Same.f k t360 (y368 ++ [(⟨(rd_T24 t339 0).f0, (rd_T24 t339 0).f1⟩ : S24)])).bind fun t376 => (if t376 = true then ((store_Repair.f t347).bind fun t377 => (some ((strOfNums t377).toList == (strOfNums t347).toList))) else (none))) else (none)) else (none)) else (none))) else (none)) else (none)) else (none)) else (none)) else (none))) else (none)) = some r := by first | (rw [hy365]; with_reducible exact H) | (have H2_ := (Option.bind_some _ _).symm.trans H; rw [hy365]; with_reducible exact H2_) | (have H2_ := (Option.bind_some _ _).symm.trans H; with_reducible exact H2_) | with_reducible exact H | (rw [hy365]; exact H) | exact H
      have Ny365 := Aside0.mk hy365
      clear hy365
      by_cases c14 : y365.length + t342.length < 4398046511104
      · rw [if_pos c14] at H
        have LMc14 := Aside0.mk c14
        clear c14
        obtain ⟨y368, hy368⟩ : ∃ y_ : List (S24), y_ = (y365 ++ t342) := ⟨_, rfl⟩
        replace H : (if y368.length < 4398046511104 then (if t335 = true then (if (t347.length : Int) = t343 then (if t351 = t343 then (if t352 = 0 then ((zigguratref30_Same.f k t342 t350).bind fun t375 => (if t375 = true then (if t359 = 0 then (if t362 = 0 then ((zigguratref30_Same.f k t360 (y368 ++ [(⟨(rd_T24 t339 0).f0, (rd_T24 t339 0).f1⟩ : S24)])).bind fun t376 => (if t376 = true then ((store_Repair.f t347).bind fun t377 => (some ((strOfNums t377).toList == (strOfNums t347).toList))) else (none))) else (none)) else (none)) else (none))) else (none)) else (none)) else (none)) else (none)) else (none)) = some r := by first | (rw [hy368]; with_reducible exact H) | (have H2_ := (Option.bind_some _ _).symm.trans H; rw [hy368]; with_reducible exact H2_) | (have H2_ := (Option.bind_some _ _).symm.trans H; with_reducible exact H2_) | with_reducible exact H | (rw [hy368]; exact H) | exact H
        have Ny368 := Aside0.mk hy368
        clear hy368
        by_cases c15 : y368.length < 4398046511104
        · rw [if_pos c15] at H
          have LMc15 := Aside0.mk c15
          clear c15
          obtain ⟨y372, hy372⟩ : ∃ y_ : List (S24), y_ = (y368 ++ [(⟨(rd_T24 t339 0).f0, (rd_T24 t339 0).f1⟩ : S24)]) := ⟨_, rfl⟩
          replace H : (if t335 = true then (if (t347.length : Int) = t343 then (if t351 = t343 then (if t352 = 0 then ((zigguratref30_Same.f k t342 t350).bind fun t375 => (if t375 = true then (if t359 = 0 then (if t362 = 0 then ((zigguratref30_Same.f k t360 y372).bind fun t376 => (if t376 = true then ((store_Repair.f t347).bind fun t377 => (some ((strOfNums t377).toList == (strOfNums t347).toList))) else (none))) else (none)) else (none)) else (none))) else (none)) else (none)) else (none)) else (none)) = some r := by first | (rw [hy372]; with_reducible exact H) | (have H2_ := (Option.bind_some _ _).symm.trans H; rw [hy372]; with_reducible exact H2_) | (have H2_ := (Option.bind_some _ _).symm.trans H; with_reducible exact H2_) | with_reducible exact H | (rw [hy372]; exact H) | exact H
          have Ny372 := Aside0.mk hy372
          clear hy372
          by_cases c16 : t335 = true
          · subst c16
            have H1 : (if (t347.length : Int) = t343 then (if t351 = t343 then (if t352 = 0 then ((zigguratref30_Same.f k t342 t350).bind fun t375 => (if t375 = true then (if t359 = 0 then (if t362 = 0 then ((zigguratref30_Same.f k t360 y372).bind fun t376 => (if t376 = true then ((store_Repair.f t347).bind fun t377 => (some ((strOfNums t377).toList == (strOfNums t347).toList))) else (none))) else (none)) else (none)) else (none))) else (none)) else (none)) else (none)) = some r := by rw [if_pos rfl] at H; exact H
            clear H
            have H := H1
            clear H1
            by_cases c17 : (t347.length : Int) = t343
            · rw [if_pos c17] at H
              have c17b0 : ((t347.length : Int) == t343) = true := beq_iff_eq.mpr c17
              have c17b1 : ((t347.length : Int) != t343) = false := bne_eq_false_iff_eq.mpr c17
              clear c17
              by_cases c18 : t351 = t343
              · rw [if_pos c18] at H
                have c18b0 : (t351 == t343) = true := beq_iff_eq.mpr c18
                have c18b1 : (t351 != t343) = false := bne_eq_false_iff_eq.mpr c18
                clear c18
                by_cases c19 : t352 = 0
                · rw [if_pos c19] at H
                  have c19b0 : (t352 == 0) = true := beq_iff_eq.mpr c19
                  have c19b1 : (t352 != 0) = false := bne_eq_false_iff_eq.mpr c19
                  clear c19
                  replace H := Option.bind_eq_some_iff.mp H
                  obtain ⟨t375, A200, H⟩ := H
                  replace H : (if t375 = true then (if t359 = 0 then (if t362 = 0 then ((zigguratref30_Same.f k t360 y372).bind fun t376 => (if t376 = true then ((store_Repair.f t347).bind fun t377 => (some ((strOfNums t377).toList == (strOfNums t347).toList))) else (none))) else (none)) else (none)) else (none)) = some r := H
                  have A20 := Aside0.mk A200
                  clear A200
                  by_cases c21 : t375 = true
                  · subst c21
                    have H1 : (if t359 = 0 then (if t362 = 0 then ((zigguratref30_Same.f k t360 y372).bind fun t376 => (if t376 = true then ((store_Repair.f t347).bind fun t377 => (some ((strOfNums t377).toList == (strOfNums t347).toList))) else (none))) else (none)) else (none)) = some r := by rw [if_pos rfl] at H; exact H
                    clear H
                    have H := H1
                    clear H1
                    by_cases c22 : t359 = 0
                    · rw [if_pos c22] at H
                      have c22b0 : (t359 == 0) = true := beq_iff_eq.mpr c22
                      have c22b1 : (t359 != 0) = false := bne_eq_false_iff_eq.mpr c22
                      clear c22
                      by_cases c23 : t362 = 0
                      · rw [if_pos c23] at H
                        have c23b0 : (t362 == 0) = true := beq_iff_eq.mpr c23
                        have c23b1 : (t362 != 0) = false := bne_eq_false_iff_eq.mpr c23
                        clear c23
                        replace H := Option.bind_eq_some_iff.mp H
                        obtain ⟨t376, A240, H⟩ := H
                        replace H : (if t376 = true then ((store_Repair.f t347).bind fun t377 => (some ((strOfNums t377).toList == (strOfNums t347).toList))) else (none)) = some r := H
                        have A24 := Aside0.mk A240
                        clear A240
                        by_cases c25 : t376 = true
                        · subst c25
                          have H1 : ((store_Repair.f t347).bind fun t377 => (some ((strOfNums t377).toList == (strOfNums t347).toList))) = some r := by rw [if_pos rfl] at H; exact H
                          clear H
                          have H := H1
                          clear H1
                          replace H := Option.bind_eq_some_iff.mp H
                          obtain ⟨t377, A260, H⟩ := H
                          replace H : (some ((strOfNums t377).toList == (strOfNums t347).toList)) = some r := H
                          have A26 := Aside0.mk A260
                          clear A260
                          obtain rfl := Option.some.inj H
                          have LHO349 := Aside0.mk (Nat.le_refl t347.length)
                          have HW349 : Aside0 (Kd.C (Kd.int .u8) w A0 t347.length t347) := (by obtain ⟨k349, hk349a, hk349b⟩ := rep_pre A9.out; exact Aside0.mk (by rw [hk349b]; exact Kd.C_take (m := k349) HR0.out hk349a))
                          go_enter Tryd.func8, Tryd.ntmps8
                          (try simp only [List.append])
                          try go_wp2_with (first | ((with_reducible refine gate_dst (N := 3) rfl ?_); (try (refine gate_guard (by rfl) ?_; dsimp only)); refine box_event ?hg (N := 3) ?hd (cs := #[.string a1_0, .string a1_1]) (t := 24) ?hr ?_; (case hd => rfl); (case hg => rfl); (case hr => first | (go_simp; done) | (go_simp; rfl)); intro gb334 hg w27 hbox hb; have n0_ := Aside0.mk (below_step (by repeat (first | (with_reducible first | exact HB.out | apply below_alloc | apply pw_below_drewN | apply below_drew1) | exact HB.out)) hb); have n1_ := Aside0.mk (hbox); have n2_ := Aside0.mk ((by rw [hg]; exact (below_size (by repeat (first | (with_reducible first | exact HB.out | apply below_alloc | apply pw_below_drewN | apply below_drew1) | exact HB.out))) : w.heap.size ≤ gb334)); have n3_ := Aside0.mk ((by rw [hg]; exact (below_size (by repeat (first | (with_reducible first | exact HB.out | apply below_alloc | apply pw_below_drewN | apply below_drew1) | exact HB.out))) : w.heap.size ≤ gb334)); clear HB; have HB := n0_; have BK334 := n1_; have GW334 := n2_; have GE334 := n3_; clear n0_ n1_ n2_ n3_; clear hb hbox hg) | ((with_reducible refine gate_callee (f := 11) rfl ?_); refine goesL_ (some 20) rfl rfl Tryd.func11 (by kernel_rfl) rfl #[] rfl (by (try simp only [List.map_toArray, List.map_cons, List.map_nil]); first | done | rfl | (simp only [List.length_drop, List.length_take]; rfl)) ?_; (with_reducible refine (zigguratlaw30_head.calls k  true _ ?side0 A3.out).mono ?_); (case side0 => exact GOK.below HG.out (by repeat (first | (with_reducible first | exact HB.out | apply below_alloc | apply pw_below_drewN | apply below_drew1) | exact HB.out))); rintro e w28 ⟨rfl, hb⟩; refine ⟨_, rfl, ?_⟩; have n0_ := Aside0.mk (blk_below (g := gb334) (o := .cells #[.string a1_0, .string a1_1] 24 (0, 0)) (by (with_reducible repeat (first | refine blk_drewN ?_ _ | refine blk_drew ?_ | refine blk_alloc ?_ _)); exact BK334.out) hb); have n1_ := Aside0.mk (below_step (by repeat (first | (with_reducible first | exact HB.out | apply below_alloc | apply pw_below_drewN | apply below_drew1 | refine below_set ?_ GE334.out) | exact HB.out)) hb); clear BK334; clear HB; have BK334 := n0_; have HB := n1_; clear n0_ n1_; (try clear hb); (try clear hb2); (try clear hk); (try clear hi); have hcz29_0 : w28.cell? ⟨gb334, 0, none⟩ = some (.string a1_0) := (blk_cell BK334.out 0).trans rfl; have hcz29_1 : w28.cell? ⟨gb334, 1, none⟩ = some (.string a1_1) := (blk_cell BK334.out 1).trans rfl; have hfz29_0 := blk_frozen BK334.out 0; have hfz29_1 := blk_frozen BK334.out 1) | ((with_reducible refine gate_dst (N := 26) rfl ?_); (try (refine gate_guard (by rfl) ?_; dsimp only)); refine Kd.R_lit k24 _ 24 ?hg (N := 26) ?hd (xs := ([(⟨a1_0, a1_1⟩ : S24)] : List (S24))) (inner := [.string a1_0, .string a1_1]) (ok := fun _ => True) (okp := fun _ => True) ?hr ?hp (fun _ hk => hk) trivial (Below.refl _ _) (Nat.le_refl _) (by simp) ?_; (case hd => rfl); (case hg => rfl); (case hr => first | (go_simp; done) | (go_simp; rfl)); (case hp => exact (Reps.c2 (show Kd.M k24 _ _ _ (⟨a1_0, a1_1⟩ : S24) [.string a1_0, .string a1_1] from (k24_mkM _ _ _ (⟨a1_0, a1_1⟩ : S24) )) (Reps.none _ _))); intro v337 w30 ho31 hb hg_ hnew_; clear hg_ hnew_; (first | rw [← Ny336.out] at ho31 | (simp only [Int.reduceToNat] at ho31; rw [← Ny336.out] at ho31)); have n0_ := Aside0.mk (Kd.R_lower (Kd.R_newB ho31 (g := gb334) (o := .cells #[.string a1_0, .string a1_1] 24 (0, 0)) (by (with_reducible repeat (first | refine blk_drewN ?_ _ | refine blk_drew ?_ | refine blk_alloc ?_ _)); exact BK334.out)) (below_size (by repeat (first | (with_reducible first | exact HB.out | apply below_alloc | apply pw_below_drewN | apply below_drew1 | refine below_set ?_ GE334.out) | exact HB.out)))); have n1_ := Aside0.mk (blk_below (g := gb334) (o := .cells #[.string a1_0, .string a1_1] 24 (0, 0)) (by (with_reducible repeat (first | refine blk_drewN ?_ _ | refine blk_drew ?_ | refine blk_alloc ?_ _)); exact BK334.out) hb); have n2_ := Aside0.mk (below_step (by repeat (first | (with_reducible first | exact HB.out | apply below_alloc | apply pw_below_drewN | apply below_drew1 | refine below_set ?_ GE334.out) | exact HB.out)) hb); clear BK334; clear HB; have HO338 := n0_; have BK334 := n1_; have HB := n2_; clear n0_ n1_ n2_; clear hb ho31; obtain ⟨Ao32, co32, eo32⟩ := Kd.R_slice HO338.out; subst eo32) | ((with_reducible refine gate_callee (f := 21) rfl ?_); refine goesL_ (some 27) rfl rfl Tryd.func21 (by kernel_rfl) rfl #[.slice Ao32 y336.length co32, .int .i64 1] rfl (by (try simp only [List.map_toArray, List.map_cons, List.map_nil]); first | done | rfl | (simp only [List.length_drop, List.length_take]; rfl)) ?_; (with_reducible refine (zigguratref30_Made.calls k _ _ y336 1 t339 _ ?side1 ?side2 A7.out).mono ?_); (case side1 => repeat (first | exact (Kd.R_reads' HO338.out).2.2 | (with_reducible refine Kd.C_alloc ?_ _) | (with_reducible refine Kd.C_drewN ?_ _) | (with_reducible refine Kd.C_drew ?_))); (case side2 => exact (Kd.R_reads' HO338.out).2.1); rintro e w33 ⟨v340, rfl, ho0, hb⟩; refine ⟨_, rfl, ?_⟩; have n0_ := Aside0.mk (Kd.R_elder' (by (with_reducible repeat (first | apply Kd.R_alloc | apply Kd.R_drewN | apply Kd.R_drew)); exact HO338.out) (Kd.R_base ho0) hb); have n1_ := Aside0.mk (Kd.R_lower (Kd.R_newB (Kd.R_new' ho0 (Kd.R_lt (by (with_reducible repeat (first | apply Kd.R_alloc | apply Kd.R_drewN | apply Kd.R_drew)); exact HO338.out))) (g := gb334) (o := .cells #[.string a1_0, .string a1_1] 24 (0, 0)) (by (with_reducible repeat (first | refine blk_drewN ?_ _ | refine blk_drew ?_ | refine blk_alloc ?_ _)); exact BK334.out)) (below_size (by repeat (first | (with_reducible first | exact HB.out | apply below_alloc | apply pw_below_drewN | apply below_drew1 | refine below_set ?_ GE334.out) | exact HB.out)))); have n2_ := Aside0.mk (blk_below (g := gb334) (o := .cells #[.string a1_0, .string a1_1] 24 (0, 0)) (by (with_reducible repeat (first | refine blk_drewN ?_ _ | refine blk_drew ?_ | refine blk_alloc ?_ _)); exact BK334.out) hb); have n3_ := Aside0.mk (below_step (by repeat (first | (with_reducible first | exact HB.out | apply below_alloc | apply pw_below_drewN | apply below_drew1 | refine below_set ?_ GE334.out) | exact HB.out)) hb); clear HO338; clear BK334; clear HB; have HO338 := n0_; have HO341 := n1_; have BK334 := n2_; have HB := n3_; clear n0_ n1_ n2_ n3_; (try clear hb); (try clear hb2); (try clear hk); (try clear hi); (try clear ho0)) | ((with_reducible refine gate_callee (f := 14) rfl ?_); refine goesL_ (some 30) rfl rfl Tryd.func14 (by kernel_rfl) rfl #[.slice A0 l0.length c0] rfl (by (try simp only [List.map_toArray, List.map_cons, List.map_nil]); first | done | rfl | (simp only [List.length_drop, List.length_take]; rfl)) ?_; (with_reducible refine (store_Read.calls _ _ l0 t342 t343 t344 _ ?side0 ?side1 ?side2 A8.out).mono ?_); (case side0 => exact GOK.below HG.out (by repeat (first | (with_reducible first | exact HB.out | apply below_alloc | apply pw_below_drewN | apply below_drew1) | exact HB.out))); (case side1 => repeat (first | exact (Kd.C_below HR0.out HB.out) | (with_reducible refine Kd.C_alloc ?_ _) | (with_reducible refine Kd.C_drewN ?_ _) | (with_reducible refine Kd.C_drew ?_))); (case side2 => exact HC0.out); rintro e w34 ⟨v345, rfl, ho0, hb⟩; refine ⟨_, rfl, ?_⟩; have n0_ := Aside0.mk (Kd.R_elder' (by (with_reducible repeat (first | apply Kd.R_alloc | apply Kd.R_drewN | apply Kd.R_drew)); exact HO338.out) (Kd.R_base ho0) hb); have n1_ := Aside0.mk (Kd.R_elder' (by (with_reducible repeat (first | apply Kd.R_alloc | apply Kd.R_drewN | apply Kd.R_drew)); exact HO341.out) (Kd.R_base ho0) hb); have n2_ := Aside0.mk (Kd.R_lower (Kd.R_newB (Kd.R_new' (Kd.R_new' ho0 (Kd.R_lt (by (with_reducible repeat (first | apply Kd.R_alloc | apply Kd.R_drewN | apply Kd.R_drew)); exact HO338.out))) (Kd.R_lt (by (with_reducible repeat (first | apply Kd.R_alloc | apply Kd.R_drewN | apply Kd.R_drew)); exact HO341.out))) (g := gb334) (o := .cells #[.string a1_0, .string a1_1] 24 (0, 0)) (by (with_reducible repeat (first | refine blk_drewN ?_ _ | refine blk_drew ?_ | refine blk_alloc ?_ _)); exact BK334.out)) (below_size (by repeat (first | (with_reducible first | exact HB.out | apply below_alloc | apply pw_below_drewN | apply below_drew1 | refine below_set ?_ GE334.out) | exact HB.out)))); have n3_ := Aside0.mk (blk_below (g := gb334) (o := .cells #[.string a1_0, .string a1_1] 24 (0, 0)) (by (with_reducible repeat (first | refine blk_drewN ?_ _ | refine blk_drew ?_ | refine blk_alloc ?_ _)); exact BK334.out) hb); have n4_ := Aside0.mk (below_step (by repeat (first | (with_reducible first | exact HB.out | apply below_alloc | apply pw_below_drewN | apply below_drew1 | refine below_set ?_ GE334.out) | exact HB.out)) hb); clear HO338; clear HO341; clear BK334; clear HB; have HO338 := n0_; have HO341 := n1_; have HO346 := n2_; have BK334 := n3_; have HB := n4_; clear n0_ n1_ n2_ n3_ n4_; (try clear hb); (try clear hb2); (try clear hk); (try clear hi); (try clear ho0)) | ((with_reducible refine gate_callee (f := 19) rfl ?_); refine goesL_ (some 35) rfl rfl Tryd.func19 (by kernel_rfl) rfl #[.slice A0 l0.length c0] rfl (by (try simp only [List.map_toArray, List.map_cons, List.map_nil]); first | done | rfl | (simp only [List.length_drop, List.length_take]; rfl)) ?_; (with_reducible refine (rep_is _ _ l0 t347 _ ?side0 ?side1 ?side2 A9.out).mono ?_); (case side0 => exact GOK.below HG.out (by repeat (first | (with_reducible first | exact HB.out | apply below_alloc | apply pw_below_drewN | apply below_drew1) | exact HB.out))); (case side1 => repeat (first | exact (Kd.C_below HR0.out HB.out) | (with_reducible refine Kd.C_alloc ?_ _) | (with_reducible refine Kd.C_drewN ?_ _) | (with_reducible refine Kd.C_drew ?_))); (case side2 => exact HC0.out); rintro e w35 ⟨rfl, hb⟩; refine ⟨_, rfl, ?_⟩; have n0_ := Aside0.mk (Kd.R_below (by (with_reducible repeat (first | apply Kd.R_alloc | apply Kd.R_drewN | apply Kd.R_drew)); exact HO338.out) hb); have n1_ := Aside0.mk (Kd.R_below (by (with_reducible repeat (first | apply Kd.R_alloc | apply Kd.R_drewN | apply Kd.R_drew)); exact HO341.out) hb); have n2_ := Aside0.mk (Kd.R_below (by (with_reducible repeat (first | apply Kd.R_alloc | apply Kd.R_drewN | apply Kd.R_drew)); exact HO346.out) hb); have n3_ := Aside0.mk True.intro; have n4_ := Aside0.mk (blk_below (g := gb334) (o := .cells #[.string a1_0, .string a1_1] 24 (0, 0)) (by (with_reducible repeat (first | refine blk_drewN ?_ _ | refine blk_drew ?_ | refine blk_alloc ?_ _)); exact BK334.out) hb); have n5_ := Aside0.mk (below_step (by repeat (first | (with_reducible first | exact HB.out | apply below_alloc | apply pw_below_drewN | apply below_drew1 | refine below_set ?_ GE334.out) | exact HB.out)) hb); clear HO338; clear HO341; clear HO346; clear BK334; clear HB; have HO338 := n0_; have HO341 := n1_; have HO346 := n2_; have HO349 := n3_; have BK334 := n4_; have HB := n5_; clear n0_ n1_ n2_ n3_ n4_ n5_; (try clear hb); (try clear hb2); (try clear hk); (try clear hi); (try clear ho0); skip) | ((with_reducible refine gate_callee (f := 14) rfl ?_); refine goesL_ (some 38) rfl rfl Tryd.func14 (by kernel_rfl) rfl #[.slice A0 t347.length t347.length] rfl (by (try simp only [List.map_toArray, List.map_cons, List.map_nil]); first | done | rfl | (simp only [List.length_drop, List.length_take]; rfl)) ?_; (with_reducible refine (store_Read.calls _ _ t347 t350 t351 t352 _ ?side0 ?side1 ?side2 A10.out).mono ?_); (case side0 => exact GOK.below HG.out (by repeat (first | (with_reducible first | exact HB.out | apply below_alloc | apply pw_below_drewN | apply below_drew1) | exact HB.out))); (case side1 => repeat (first | exact (Kd.C_below HW349.out (by repeat (first | (with_reducible first | exact HB.out | apply below_alloc | apply pw_below_drewN | apply below_drew1 | refine below_set ?_ GE334.out) | exact HB.out))) | (with_reducible refine Kd.C_alloc ?_ _) | (with_reducible refine Kd.C_drewN ?_ _) | (with_reducible refine Kd.C_drew ?_))); (case side2 => exact LHO349.out); rintro e w37 ⟨v353, rfl, ho0, hb⟩; refine ⟨_, rfl, ?_⟩; have n0_ := Aside0.mk (Kd.R_elder' (by (with_reducible repeat (first | apply Kd.R_alloc | apply Kd.R_drewN | apply Kd.R_drew)); exact HO338.out) (Kd.R_base ho0) hb); have n1_ := Aside0.mk (Kd.R_elder' (by (with_reducible repeat (first | apply Kd.R_alloc | apply Kd.R_drewN | apply Kd.R_drew)); exact HO341.out) (Kd.R_base ho0) hb); have n2_ := Aside0.mk (Kd.R_elder' (by (with_reducible repeat (first | apply Kd.R_alloc | apply Kd.R_drewN | apply Kd.R_drew)); exact HO346.out) (Kd.R_base ho0) hb); have n3_ := Aside0.mk True.intro; have n4_ := Aside0.mk (Kd.R_lower (Kd.R_newB (Kd.R_new' (Kd.R_new' (Kd.R_new' ho0 (Kd.R_lt (by (with_reducible repeat (first | apply Kd.R_alloc | apply Kd.R_drewN | apply Kd.R_drew)); exact HO338.out))) (Kd.R_lt (by (with_reducible repeat (first | apply Kd.R_alloc | apply Kd.R_drewN | apply Kd.R_drew)); exact HO341.out))) (Kd.R_lt (by (with_reducible repeat (first | apply Kd.R_alloc | apply Kd.R_drewN | apply Kd.R_drew)); exact HO346.out))) (g := gb334) (o := .cells #[.string a1_0, .string a1_1] 24 (0, 0)) (by (with_reducible repeat (first | refine blk_drewN ?_ _ | refine blk_drew ?_ | refine blk_alloc ?_ _)); exact BK334.out)) (below_size (by repeat (first | (with_reducible first | exact HB.out | apply below_alloc | apply pw_below_drewN | apply below_drew1 | refine below_set ?_ GE334.out) | exact HB.out)))); have n5_ := Aside0.mk (blk_below (g := gb334) (o := .cells #[.string a1_0, .string a1_1] 24 (0, 0)) (by (with_reducible repeat (first | refine blk_drewN ?_ _ | refine blk_drew ?_ | refine blk_alloc ?_ _)); exact BK334.out) hb); have n6_ := Aside0.mk (below_step (by repeat (first | (with_reducible first | exact HB.out | apply below_alloc | apply pw_below_drewN | apply below_drew1 | refine below_set ?_ GE334.out) | exact HB.out)) hb); clear HO338; clear HO341; clear HO346; clear HO349; clear BK334; clear HB; have HO338 := n0_; have HO341 := n1_; have HO346 := n2_; have HO349 := n3_; have HO354 := n4_; have BK334 := n5_; have HB := n6_; clear n0_ n1_ n2_ n3_ n4_ n5_ n6_; (try clear hb); (try clear hb2); (try clear hk); (try clear hi); (try clear ho0); obtain ⟨Ao38, co38, eo38⟩ := Kd.R_slice HO341.out; subst eo38; have p355 : 0 ≤ (0 : Int) := (by omega); have q355 : 0 < (t339.length : Int) := of_decide_eq_true (by first | (with_reducible assumption) | assumption); obtain ⟨ad355, e355, hx355_0, hx355_1⟩ := at_T24 (Kd.R_reads' HO341.out).2.2 0 p355 q355; cases e355; have qi355 : (0 < t339.length) = True := eq_true (by omega); (try rw [show ((0 : Int)).toNat = 0 from rfl] at hx355_0); (try rw [show 0 * 2 = 0 from rfl] at hx355_0); (try rw [Addr.add_zero'] at hx355_0); (try rw [show ((0 : Int)).toNat = 0 from rfl] at hx355_1); (try rw [show 0 * 2 = 0 from rfl] at hx355_1); (try rw [Addr.add_zero'] at hx355_1); replace p355 := eq_true p355; replace q355 := eq_true q355) | ((with_reducible refine gate_callee (f := 12) rfl ?_); refine goesL_ (some 47) rfl rfl Tryd.func12 (by kernel_rfl) rfl #[.slice A0 t347.length t347.length, .agg #[.string ((rd_T24 t339 0).f0), .string ((rd_T24 t339 0).f1)]] rfl (by (try simp only [List.map_toArray, List.map_cons, List.map_nil]); first | done | rfl | (simp only [List.length_drop, List.length_take]; rfl)) ?_; (with_reducible refine (store_Append.calls _ _ t347 ((rd_T24 t339 0).f0) ((rd_T24 t339 0).f1) t356 t359 _ ?side1 ?side2 A12.out).mono ?_); (case side1 => repeat (first | exact (Kd.C_below HW349.out (by repeat (first | (with_reducible first | exact HB.out | apply below_alloc | apply pw_below_drewN | apply below_drew1 | refine below_set ?_ GE334.out) | exact HB.out))) | (with_reducible refine Kd.C_alloc ?_ _) | (with_reducible refine Kd.C_drewN ?_ _) | (with_reducible refine Kd.C_drew ?_))); (case side2 => exact LHO349.out); rintro e w39 ⟨v357, rfl, ho0, hb⟩; refine ⟨_, rfl, ?_⟩; have n0_ := Aside0.mk (Kd.R_below (by (with_reducible repeat (first | apply Kd.R_alloc | apply Kd.R_drewN | apply Kd.R_drew)); exact HO338.out) hb); have n1_ := Aside0.mk (Kd.R_below (by (with_reducible repeat (first | apply Kd.R_alloc | apply Kd.R_drewN | apply Kd.R_drew)); exact HO341.out) hb); have n2_ := Aside0.mk (Kd.R_below (by (with_reducible repeat (first | apply Kd.R_alloc | apply Kd.R_drewN | apply Kd.R_drew)); exact HO346.out) hb); have n3_ := Aside0.mk True.intro; have n4_ := Aside0.mk (Kd.R_below (by (with_reducible repeat (first | apply Kd.R_alloc | apply Kd.R_drewN | apply Kd.R_drew)); exact HO354.out) hb); have n5_ := Aside0.mk (Kd.R_lower ho0 (below_size (by repeat (first | (with_reducible first | exact HB.out | apply below_alloc | apply pw_below_drewN | apply below_drew1 | refine below_set ?_ GE334.out) | exact HB.out)))); have n6_ := Aside0.mk (blk_below (g := gb334) (o := .cells #[.string a1_0, .string a1_1] 24 (0, 0)) (by (with_reducible repeat (first | refine blk_drewN ?_ _ | refine blk_drew ?_ | refine blk_alloc ?_ _)); exact BK334.out) hb); have n7_ := Aside0.mk (below_step (by repeat (first | (with_reducible first | exact HB.out | apply below_alloc | apply pw_below_drewN | apply below_drew1 | refine below_set ?_ GE334.out) | exact HB.out)) hb); clear HO338; clear HO341; clear HO346; clear HO349; clear HO354; clear BK334; clear HB; have HO338 := n0_; have HO341 := n1_; have HO346 := n2_; have HO349 := n3_; have HO354 := n4_; have HO358 := n5_; have BK334 := n6_; have HB := n7_; clear n0_ n1_ n2_ n3_ n4_ n5_ n6_ n7_; (try clear hb); (try clear hb2); (try clear hk); (try clear hi); (try clear ho0); obtain ⟨Ao40, co40, eo40⟩ := Kd.R_slice HO358.out; subst eo40) | ((with_reducible refine gate_callee (f := 14) rfl ?_); refine goesL_ (some 52) rfl rfl Tryd.func14 (by kernel_rfl) rfl #[.slice Ao40 t356.length co40] rfl (by (try simp only [List.map_toArray, List.map_cons, List.map_nil]); first | done | rfl | (simp only [List.length_drop, List.length_take]; rfl)) ?_; (with_reducible refine (store_Read.calls _ _ t356 t360 t361 t362 _ ?side0 ?side1 ?side2 A13.out).mono ?_); (case side0 => exact GOK.below HG.out (by repeat (first | (with_reducible first | exact HB.out | apply below_alloc | apply pw_below_drewN | apply below_drew1) | exact HB.out))); (case side1 => repeat (first | exact (Kd.R_reads' HO358.out).2.2 | (with_reducible refine Kd.C_alloc ?_ _) | (with_reducible refine Kd.C_drewN ?_ _) | (with_reducible refine Kd.C_drew ?_))); (case side2 => exact (Kd.R_reads' HO358.out).2.1); rintro e w41 ⟨v363, rfl, ho0, hb⟩; refine ⟨_, rfl, ?_⟩; have n0_ := Aside0.mk (Kd.R_elder' (by (with_reducible repeat (first | apply Kd.R_alloc | apply Kd.R_drewN | apply Kd.R_drew)); exact HO338.out) (Kd.R_base ho0) hb); have n1_ := Aside0.mk (Kd.R_elder' (by (with_reducible repeat (first | apply Kd.R_alloc | apply Kd.R_drewN | apply Kd.R_drew)); exact HO341.out) (Kd.R_base ho0) hb); have n2_ := Aside0.mk (Kd.R_elder' (by (with_reducible repeat (first | apply Kd.R_alloc | apply Kd.R_drewN | apply Kd.R_drew)); exact HO346.out) (Kd.R_base ho0) hb); have n3_ := Aside0.mk True.intro; have n4_ := Aside0.mk (Kd.R_elder' (by (with_reducible repeat (first | apply Kd.R_alloc | apply Kd.R_drewN | apply Kd.R_drew)); exact HO354.out) (Kd.R_base ho0) hb); have n5_ := Aside0.mk (Kd.R_below (by (with_reducible repeat (first | apply Kd.R_alloc | apply Kd.R_drewN | apply Kd.R_drew)); exact HO358.out) hb); have n6_ := Aside0.mk (Kd.R_lower (Kd.R_newB (Kd.R_new' (Kd.R_new' (Kd.R_new' (Kd.R_new' ho0 (Kd.R_lt (by (with_reducible repeat (first | apply Kd.R_alloc | apply Kd.R_drewN | apply Kd.R_drew)); exact HO338.out))) (Kd.R_lt (by (with_reducible repeat (first | apply Kd.R_alloc | apply Kd.R_drewN | apply Kd.R_drew)); exact HO341.out))) (Kd.R_lt (by (with_reducible repeat (first | apply Kd.R_alloc | apply Kd.R_drewN | apply Kd.R_drew)); exact HO346.out))) (Kd.R_lt (by (with_reducible repeat (first | apply Kd.R_alloc | apply Kd.R_drewN | apply Kd.R_drew)); exact HO354.out))) (g := gb334) (o := .cells #[.string a1_0, .string a1_1] 24 (0, 0)) (by (with_reducible repeat (first | refine blk_drewN ?_ _ | refine blk_drew ?_ | refine blk_alloc ?_ _)); exact BK334.out)) (below_size (by repeat (first | (with_reducible first | exact HB.out | apply below_alloc | apply pw_below_drewN | apply below_drew1 | refine below_set ?_ GE334.out) | exact HB.out)))); have n7_ := Aside0.mk (blk_below (g := gb334) (o := .cells #[.string a1_0, .string a1_1] 24 (0, 0)) (by (with_reducible repeat (first | refine blk_drewN ?_ _ | refine blk_drew ?_ | refine blk_alloc ?_ _)); exact BK334.out) hb); have n8_ := Aside0.mk (below_step (by repeat (first | (with_reducible first | exact HB.out | apply below_alloc | apply pw_below_drewN | apply below_drew1 | refine below_set ?_ GE334.out) | exact HB.out)) hb); clear HO338; clear HO341; clear HO346; clear HO349; clear HO354; clear HO358; clear BK334; clear HB; have HO338 := n0_; have HO341 := n1_; have HO346 := n2_; have HO349 := n3_; have HO354 := n4_; have HO358 := n5_; have HO364 := n6_; have BK334 := n7_; have HB := n8_; clear n0_ n1_ n2_ n3_ n4_ n5_ n6_ n7_ n8_; (try clear hb); (try clear hb2); (try clear hk); (try clear hi); (try clear ho0)) | ((with_reducible refine gate_dst (N := 56) rfl ?_); (try (refine gate_guard (by rfl) ?_; dsimp only)); refine Kd.R_lit k24 _ 24 ?hg (N := 56) ?hd (xs := ([] : List (S24))) (inner := []) (ok := fun _ => True) (okp := fun _ => True) ?hr ?hp (fun _ hk => hk) trivial (Below.refl _ _) (Nat.le_refl _) (by simp) ?_; (case hd => rfl); (case hg => rfl); (case hr => first | (go_simp; done) | (go_simp; rfl)); (case hp => exact (Reps.none _ _)); intro v366 w42 ho43 hb hg_ hnew_; clear hg_ hnew_; (first | rw [← Ny365.out] at ho43 | (simp only [Int.reduceToNat] at ho43; rw [← Ny365.out] at ho43)); have n0_ := Aside0.mk (Kd.R_elder' (by (with_reducible repeat (first | apply Kd.R_alloc | apply Kd.R_drewN | apply Kd.R_drew)); exact HO338.out) (Kd.R_base ho43) hb); have n1_ := Aside0.mk (Kd.R_elder' (by (with_reducible repeat (first | apply Kd.R_alloc | apply Kd.R_drewN | apply Kd.R_drew)); exact HO341.out) (Kd.R_base ho43) hb); have n2_ := Aside0.mk (Kd.R_elder' (by (with_reducible repeat (first | apply Kd.R_alloc | apply Kd.R_drewN | apply Kd.R_drew)); exact HO346.out) (Kd.R_base ho43) hb); have n3_ := Aside0.mk True.intro; have n4_ := Aside0.mk (Kd.R_elder' (by (with_reducible repeat (first | apply Kd.R_alloc | apply Kd.R_drewN | apply Kd.R_drew)); exact HO354.out) (Kd.R_base ho43) hb); have n5_ := Aside0.mk (Kd.R_below (by (with_reducible repeat (first | apply Kd.R_alloc | apply Kd.R_drewN | apply Kd.R_drew)); exact HO358.out) hb); have n6_ := Aside0.mk (Kd.R_elder' (by (with_reducible repeat (first | apply Kd.R_alloc | apply Kd.R_drewN | apply Kd.R_drew)); exact HO364.out) (Kd.R_base ho43) hb); have n7_ := Aside0.mk (Kd.R_lower (Kd.R_newB (Kd.R_new' (Kd.R_new' (Kd.R_new' (Kd.R_new' (Kd.R_new' ho43 (Kd.R_lt (by (with_reducible repeat (first | apply Kd.R_alloc | apply Kd.R_drewN | apply Kd.R_drew)); exact HO338.out))) (Kd.R_lt (by (with_reducible repeat (first | apply Kd.R_alloc | apply Kd.R_drewN | apply Kd.R_drew)); exact HO341.out))) (Kd.R_lt (by (with_reducible repeat (first | apply Kd.R_alloc | apply Kd.R_drewN | apply Kd.R_drew)); exact HO346.out))) (Kd.R_lt (by (with_reducible repeat (first | apply Kd.R_alloc | apply Kd.R_drewN | apply Kd.R_drew)); exact HO354.out))) (Kd.R_lt (by (with_reducible repeat (first | apply Kd.R_alloc | apply Kd.R_drewN | apply Kd.R_drew)); exact HO364.out))) (g := gb334) (o := .cells #[.string a1_0, .string a1_1] 24 (0, 0)) (by (with_reducible repeat (first | refine blk_drewN ?_ _ | refine blk_drew ?_ | refine blk_alloc ?_ _)); exact BK334.out)) (below_size (by repeat (first | (with_reducible first | exact HB.out | apply below_alloc | apply pw_below_drewN | apply below_drew1 | refine below_set ?_ GE334.out) | exact HB.out)))); have n8_ := Aside0.mk (blk_below (g := gb334) (o := .cells #[.string a1_0, .string a1_1] 24 (0, 0)) (by (with_reducible repeat (first | refine blk_drewN ?_ _ | refine blk_drew ?_ | refine blk_alloc ?_ _)); exact BK334.out) hb); have n9_ := Aside0.mk (below_step (by repeat (first | (with_reducible first | exact HB.out | apply below_alloc | apply pw_below_drewN | apply below_drew1 | refine below_set ?_ GE334.out) | exact HB.out)) hb); clear HO338; clear HO341; clear HO346; clear HO349; clear HO354; clear HO358; clear HO364; clear BK334; clear HB; have HO338 := n0_; have HO341 := n1_; have HO346 := n2_; have HO349 := n3_; have HO354 := n4_; have HO358 := n5_; have HO364 := n6_; have HO367 := n7_; have BK334 := n8_; have HB := n9_; clear n0_ n1_ n2_ n3_ n4_ n5_ n6_ n7_ n8_ n9_; clear hb ho43; obtain ⟨Ao45, co45, eo45⟩ := Kd.R_slice HO346.out; subst eo45) | ((with_reducible refine gate_builtin (b := .append) (xs := #[.tmp 56, .tmp 57]) rfl ?_); (try (refine gate_guard (by rfl) ?_; dsimp only)); at_builtin; refine Kd.R_append_rows k24 (w0 := w) w.heap.size rfl (.tmp 56) (.tmp 57) 29 24 (.agg #[(.string ⟨#[]⟩), (.string ⟨#[]⟩)]) 32 rfl Tryd.underlying29 info24 rfl (by decide) (by omega) v366 y365 t342 _ _ _ (fun k_ => some k_ ≠ (.slice Ao32 y336.length co32 : Value).ownBlock ∧ some k_ ≠ (.slice (some ad355) t339.length co38 : Value).ownBlock ∧ some k_ ≠ (.slice Ao45 t342.length co45 : Value).ownBlock ∧ some k_ ≠ (v353 : Value).ownBlock ∧ some k_ ≠ (v363 : Value).ownBlock ∧ k_ ≠ gb334) (fun _ => False) rfl rfl ?aO ?aR (fun _ _ h => h) (fun _ h => h.elim) ?aF ?aB ?aS ?aL ?_; (case aR => repeat (first | exact (Kd.R_reads' HO346.out).2.2 | (with_reducible refine Kd.C_alloc ?_ _) | (with_reducible refine Kd.C_drewN ?_ _) | (with_reducible refine Kd.C_drew ?_))); (case aB => exact (by repeat (first | (with_reducible first | exact HB.out | apply below_alloc | apply pw_below_drewN | apply below_drew1 | refine below_set ?_ GE334.out) | exact HB.out))); (case aF => exact (fun k_ hk => ⟨Kd.fresh' (Kd.R_lt (by (with_reducible repeat (first | apply Kd.R_alloc | apply Kd.R_drewN | apply Kd.R_drew)); exact HO338.out)) k_ hk, Kd.fresh' (Kd.R_lt (by (with_reducible repeat (first | apply Kd.R_alloc | apply Kd.R_drewN | apply Kd.R_drew)); exact HO341.out)) k_ hk, Kd.fresh' (Kd.R_lt (by (with_reducible repeat (first | apply Kd.R_alloc | apply Kd.R_drewN | apply Kd.R_drew)); exact HO346.out)) k_ hk, Kd.fresh' (Kd.R_lt (by (with_reducible repeat (first | apply Kd.R_alloc | apply Kd.R_drewN | apply Kd.R_drew)); exact HO354.out)) k_ hk, Kd.fresh' (Kd.R_lt (by (with_reducible repeat (first | apply Kd.R_alloc | apply Kd.R_drewN | apply Kd.R_drew)); exact HO364.out)) k_ hk, Kd.freshB (g := gb334) (o := .cells #[.string a1_0, .string a1_1] 24 (0, 0)) (by (with_reducible repeat (first | refine blk_drewN ?_ _ | refine blk_drew ?_ | refine blk_alloc ?_ _)); exact BK334.out) k_ hk⟩)); (case aO => exact (by (with_reducible repeat (first | apply Kd.R_alloc | apply Kd.R_drewN | apply Kd.R_drew)); exact Kd.R_mono HO367.out (fun _ hk => ⟨hk.1.1.1.1.1.2, ⟨hk.1.1.1.1.2, ⟨hk.1.1.1.2, ⟨hk.1.1.2, ⟨hk.1.2, hk.2⟩⟩⟩⟩⟩))); (case aS => exact (below_size (by repeat (first | (with_reducible first | exact HB.out | apply below_alloc | apply pw_below_drewN | apply below_drew1 | refine below_set ?_ GE334.out) | exact HB.out)))); (case aL => have := LMc14.out; omega); intro v369 w44 ho hb hg hat; rw [← Ny368.out] at ho; have n0_ := Aside0.mk (blk_grown (g := gb334) (o := .cells #[.string a1_0, .string a1_1] 24 (0, 0)) (by (with_reducible repeat (first | refine blk_drewN ?_ _ | refine blk_drew ?_ | refine blk_alloc ?_ _)); exact BK334.out) hg (Kd.R_away HO367.out (fun _ hk => hk.2))); have n1_ := Aside0.mk (Kd.R_after (ok := (fun k_ => some k_ ≠ (.slice (some ad355) t339.length co38 : Value).ownBlock ∧ some k_ ≠ (.slice Ao45 t342.length co45 : Value).ownBlock ∧ some k_ ≠ (v353 : Value).ownBlock ∧ some k_ ≠ (v363 : Value).ownBlock ∧ k_ ≠ gb334)) (by (with_reducible repeat (first | apply Kd.R_alloc | apply Kd.R_drewN | apply Kd.R_drew)); exact Kd.R_mono HO338.out (fun _ hk => ⟨⟨hk.1.1.1.1.2, ⟨hk.1.1.1.2, ⟨hk.1.1.2, ⟨hk.1.2, hk.1.1.1.1.1.2⟩⟩⟩⟩, hk.2⟩)) hg hat); have n2_ := Aside0.mk (Kd.R_after (ok := (fun k_ => some k_ ≠ (.slice Ao32 y336.length co32 : Value).ownBlock ∧ some k_ ≠ (.slice Ao45 t342.length co45 : Value).ownBlock ∧ some k_ ≠ (v353 : Value).ownBlock ∧ some k_ ≠ (v363 : Value).ownBlock ∧ k_ ≠ gb334)) (by (with_reducible repeat (first | apply Kd.R_alloc | apply Kd.R_drewN | apply Kd.R_drew)); exact Kd.R_mono HO341.out (fun _ hk => ⟨⟨hk.1.1.1.1.1.2, ⟨hk.1.1.1.2, ⟨hk.1.1.2, ⟨hk.1.2, hk.1.1.1.1.2⟩⟩⟩⟩, hk.2⟩)) hg hat); have n3_ := Aside0.mk (Kd.R_after (ok := (fun k_ => some k_ ≠ (.slice Ao32 y336.length co32 : Value).ownBlock ∧ some k_ ≠ (.slice (some ad355) t339.length co38 : Value).ownBlock ∧ some k_ ≠ (v353 : Value).ownBlock ∧ some k_ ≠ (v363 : Value).ownBlock ∧ k_ ≠ gb334)) (by (with_reducible repeat (first | apply Kd.R_alloc | apply Kd.R_drewN | apply Kd.R_drew)); exact Kd.R_mono HO346.out (fun _ hk => ⟨⟨hk.1.1.1.1.1.2, ⟨hk.1.1.1.1.2, ⟨hk.1.1.2, ⟨hk.1.2, hk.1.1.1.2⟩⟩⟩⟩, hk.2⟩)) hg hat); have n4_ := Aside0.mk True.intro; have n5_ := Aside0.mk (Kd.R_after (ok := (fun k_ => some k_ ≠ (.slice Ao32 y336.length co32 : Value).ownBlock ∧ some k_ ≠ (.slice (some ad355) t339.length co38 : Value).ownBlock ∧ some k_ ≠ (.slice Ao45 t342.length co45 : Value).ownBlock ∧ some k_ ≠ (v363 : Value).ownBlock ∧ k_ ≠ gb334)) (by (with_reducible repeat (first | apply Kd.R_alloc | apply Kd.R_drewN | apply Kd.R_drew)); exact Kd.R_mono HO354.out (fun _ hk => ⟨⟨hk.1.1.1.1.1.2, ⟨hk.1.1.1.1.2, ⟨hk.1.1.1.2, ⟨hk.1.2, hk.1.1.2⟩⟩⟩⟩, hk.2⟩)) hg hat); have n6_ := Aside0.mk (Kd.R_over' (by (with_reducible repeat (first | apply Kd.R_alloc | apply Kd.R_drewN | apply Kd.R_drew)); exact HO358.out) (Kd.R_typed (by (with_reducible repeat (first | apply Kd.R_alloc | apply Kd.R_drewN | apply Kd.R_drew)); exact HO367.out)) (by decide) hg); have n7_ := Aside0.mk (Kd.R_after (ok := (fun k_ => some k_ ≠ (.slice Ao32 y336.length co32 : Value).ownBlock ∧ some k_ ≠ (.slice (some ad355) t339.length co38 : Value).ownBlock ∧ some k_ ≠ (.slice Ao45 t342.length co45 : Value).ownBlock ∧ some k_ ≠ (v353 : Value).ownBlock ∧ k_ ≠ gb334)) (by (with_reducible repeat (first | apply Kd.R_alloc | apply Kd.R_drewN | apply Kd.R_drew)); exact Kd.R_mono HO364.out (fun _ hk => ⟨⟨hk.1.1.1.1.1.2, ⟨hk.1.1.1.1.2, ⟨hk.1.1.1.2, ⟨hk.1.1.2, hk.1.2⟩⟩⟩⟩, hk.2⟩)) hg hat); have n8_ := Aside0.mk (hb); have n9_ := Aside0.mk (ho); clear BK334; clear HO338; clear HO341; clear HO346; clear HO349; clear HO354; clear HO358; clear HO364; clear HB; clear HO367; have BK334 := n0_; have HO338 := n1_; have HO341 := n2_; have HO346 := n3_; have HO349 := n4_; have HO354 := n5_; have HO358 := n6_; have HO364 := n7_; have HB := n8_; have HO370 := n9_; clear n0_ n1_ n2_ n3_ n4_ n5_ n6_ n7_ n8_ n9_; clear ho hb hg hat; have p371 : 0 ≤ (0 : Int) := (by omega); have q371 : 0 < (t339.length : Int) := of_decide_eq_true (by first | (with_reducible assumption) | assumption); obtain ⟨ad371, e371, hx371_0, hx371_1⟩ := at_T24 (Kd.R_reads' HO341.out).2.2 0 p371 q371; obtain rfl : ad355 = ad371 := (by injection e371); have qi371 : (0 < t339.length) = True := eq_true (by omega); (try rw [show ((0 : Int)).toNat = 0 from rfl] at hx371_0); (try rw [show 0 * 2 = 0 from rfl] at hx371_0); (try rw [Addr.add_zero'] at hx371_0); (try rw [show ((0 : Int)).toNat = 0 from rfl] at hx371_1); (try rw [show 0 * 2 = 0 from rfl] at hx371_1); (try rw [Addr.add_zero'] at hx371_1); replace p371 := eq_true p371; replace q371 := eq_true q371) | ((with_reducible refine gate_builtin (b := .append) (xs := #[.tmp 59, .tmp 63]) rfl ?_); (try (refine gate_guard (by rfl) ?_; dsimp only)); at_builtin; refine Kd.R_append k24 (w0 := w) w.heap.size rfl (.tmp 59) (.tmp 63) 29 24 (.agg #[(.string ⟨#[]⟩), (.string ⟨#[]⟩)]) 32 rfl Tryd.underlying29 info24 rfl (by decide) (by omega) v369 y368 (⟨(rd_T24 t339 0).f0, (rd_T24 t339 0).f1⟩ : S24) [.string ((rd_T24 t339 0).f0), .string ((rd_T24 t339 0).f1)] (fun k_ => some k_ ≠ (.slice Ao32 y336.length co32 : Value).ownBlock ∧ some k_ ≠ (.slice (some ad355) t339.length co38 : Value).ownBlock ∧ some k_ ≠ (.slice Ao45 t342.length co45 : Value).ownBlock ∧ some k_ ≠ (v353 : Value).ownBlock ∧ some k_ ≠ (v363 : Value).ownBlock ∧ k_ ≠ gb334) (fun _ => False) rfl rfl ?aP (fun _ hk => hk.elim) ?aF ?aO ?aB ?aS ?aL ?_; (case aP => exact k24_mkM _ _ _ (⟨(rd_T24 t339 0).f0, (rd_T24 t339 0).f1⟩ : S24)); (case aB => exact (by repeat (first | (with_reducible first | exact HB.out | apply below_alloc | apply pw_below_drewN | apply below_drew1 | refine below_set ?_ GE334.out) | exact HB.out))); (case aF => exact (fun k_ hk => ⟨Kd.fresh' (Kd.R_lt (by (with_reducible repeat (first | apply Kd.R_alloc | apply Kd.R_drewN | apply Kd.R_drew)); exact HO338.out)) k_ hk, Kd.fresh' (Kd.R_lt (by (with_reducible repeat (first | apply Kd.R_alloc | apply Kd.R_drewN | apply Kd.R_drew)); exact HO341.out)) k_ hk, Kd.fresh' (Kd.R_lt (by (with_reducible repeat (first | apply Kd.R_alloc | apply Kd.R_drewN | apply Kd.R_drew)); exact HO346.out)) k_ hk, Kd.fresh' (Kd.R_lt (by (with_reducible repeat (first | apply Kd.R_alloc | apply Kd.R_drewN | apply Kd.R_drew)); exact HO354.out)) k_ hk, Kd.fresh' (Kd.R_lt (by (with_reducible repeat (first | apply Kd.R_alloc | apply Kd.R_drewN | apply Kd.R_drew)); exact HO364.out)) k_ hk, Kd.freshB (g := gb334) (o := .cells #[.string a1_0, .string a1_1] 24 (0, 0)) (by (with_reducible repeat (first | refine blk_drewN ?_ _ | refine blk_drew ?_ | refine blk_alloc ?_ _)); exact BK334.out) k_ hk⟩)); (case aO => exact (by (with_reducible repeat (first | apply Kd.R_alloc | apply Kd.R_drewN | apply Kd.R_drew)); exact HO370.out)); (case aS => exact (below_size (by repeat (first | (with_reducible first | exact HB.out | apply below_alloc | apply pw_below_drewN | apply below_drew1 | refine below_set ?_ GE334.out) | exact HB.out)))); (case aL => have := LMc15.out; omega); intro v373 w46 ho hb hg hat; rw [← Ny372.out] at ho; have n0_ := Aside0.mk (blk_grown (g := gb334) (o := .cells #[.string a1_0, .string a1_1] 24 (0, 0)) (by (with_reducible repeat (first | refine blk_drewN ?_ _ | refine blk_drew ?_ | refine blk_alloc ?_ _)); exact BK334.out) hg (Kd.R_away HO370.out (fun _ hk => hk.2.2.2.2.2))); have n1_ := Aside0.mk (Kd.R_after (ok := (fun k_ => some k_ ≠ (.slice (some ad355) t339.length co38 : Value).ownBlock ∧ some k_ ≠ (.slice Ao45 t342.length co45 : Value).ownBlock ∧ some k_ ≠ (v353 : Value).ownBlock ∧ some k_ ≠ (v363 : Value).ownBlock ∧ k_ ≠ gb334)) (by (with_reducible repeat (first | apply Kd.R_alloc | apply Kd.R_drewN | apply Kd.R_drew)); exact HO338.out) hg hat); have n2_ := Aside0.mk (Kd.R_after (ok := (fun k_ => some k_ ≠ (.slice Ao32 y336.length co32 : Value).ownBlock ∧ some k_ ≠ (.slice Ao45 t342.length co45 : Value).ownBlock ∧ some k_ ≠ (v353 : Value).ownBlock ∧ some k_ ≠ (v363 : Value).ownBlock ∧ k_ ≠ gb334)) (by (with_reducible repeat (first | apply Kd.R_alloc | apply Kd.R_drewN | apply Kd.R_drew)); exact HO341.out) hg hat); have n3_ := Aside0.mk (Kd.R_after (ok := (fun k_ => some k_ ≠ (.slice Ao32 y336.length co32 : Value).ownBlock ∧ some k_ ≠ (.slice (some ad355) t339.length co38 : Value).ownBlock ∧ some k_ ≠ (v353 : Value).ownBlock ∧ some k_ ≠ (v363 : Value).ownBlock ∧ k_ ≠ gb334)) (by (with_reducible repeat (first | apply Kd.R_alloc | apply Kd.R_drewN | apply Kd.R_drew)); exact HO346.out) hg hat); have n4_ := Aside0.mk True.intro; have n5_ := Aside0.mk (Kd.R_after (ok := (fun k_ => some k_ ≠ (.slice Ao32 y336.length co32 : Value).ownBlock ∧ some k_ ≠ (.slice (some ad355) t339.length co38 : Value).ownBlock ∧ some k_ ≠ (.slice Ao45 t342.length co45 : Value).ownBlock ∧ some k_ ≠ (v363 : Value).ownBlock ∧ k_ ≠ gb334)) (by (with_reducible repeat (first | apply Kd.R_alloc | apply Kd.R_drewN | apply Kd.R_drew)); exact HO354.out) hg hat); have n6_ := Aside0.mk (Kd.R_over' (by (with_reducible repeat (first | apply Kd.R_alloc | apply Kd.R_drewN | apply Kd.R_drew)); exact HO358.out) (Kd.R_typed (by (with_reducible repeat (first | apply Kd.R_alloc | apply Kd.R_drewN | apply Kd.R_drew)); exact HO370.out)) (by decide) hg); have n7_ := Aside0.mk (Kd.R_after (ok := (fun k_ => some k_ ≠ (.slice Ao32 y336.length co32 : Value).ownBlock ∧ some k_ ≠ (.slice (some ad355) t339.length co38 : Value).ownBlock ∧ some k_ ≠ (.slice Ao45 t342.length co45 : Value).ownBlock ∧ some k_ ≠ (v353 : Value).ownBlock ∧ k_ ≠ gb334)) (by (with_reducible repeat (first | apply Kd.R_alloc | apply Kd.R_drewN | apply Kd.R_drew)); exact HO364.out) hg hat); have n8_ := Aside0.mk (hb); have n9_ := Aside0.mk (ho); clear BK334; clear HO338; clear HO341; clear HO346; clear HO349; clear HO354; clear HO358; clear HO364; clear HB; clear HO370; have BK334 := n0_; have HO338 := n1_; have HO341 := n2_; have HO346 := n3_; have HO349 := n4_; have HO354 := n5_; have HO358 := n6_; have HO364 := n7_; have HB := n8_; have HO374 := n9_; clear n0_ n1_ n2_ n3_ n4_ n5_ n6_ n7_ n8_ n9_; clear ho hb hg hat; obtain ⟨Ao47, co47, eo47⟩ := Kd.R_slice HO354.out; subst eo47; obtain ⟨Ao48, co48, eo48⟩ := Kd.R_slice HO364.out; subst eo48; obtain ⟨Ao49, co49, eo49⟩ := Kd.R_slice HO374.out; subst eo49))
                          have n0_ := Aside0.mk (Kd.R_drew HO338.out)
                          have n1_ := Aside0.mk (Kd.R_drew HO341.out)
                          have n2_ := Aside0.mk (Kd.R_drew HO346.out)
                          have n3_ := Aside0.mk True.intro
                          have n4_ := Aside0.mk (Kd.R_drew HO354.out)
                          have n5_ := Aside0.mk (Kd.R_drew HO358.out)
                          have n6_ := Aside0.mk (Kd.R_drew HO364.out)
                          have n7_ := Aside0.mk (Kd.R_drew HO374.out)
                          have n8_ := Aside0.mk (blk_drew BK334.out)
                          have n9_ := Aside0.mk (below_drew1 HB.out)
                          clear HO338
                          clear HO341
                          clear HO346
                          clear HO349
                          clear HO354
                          clear HO358
                          clear HO364
                          clear HO374
                          clear BK334
                          clear HB
                          have HO338 := n0_
                          have HO341 := n1_
                          have HO346 := n2_
                          have HO349 := n3_
                          have HO354 := n4_
                          have HO358 := n5_
                          have HO364 := n6_
                          have HO374 := n7_
                          have BK334 := n8_
                          have HB := n9_
                          clear n0_ n1_ n2_ n3_ n4_ n5_ n6_ n7_ n8_ n9_
                          refine start_ (n := 43) (S := fun w' => Below w.heap.size w w') (ds := []) #[false, false, false, false, false, false, false, false, false, false, false, false, false, false, false, false, false, false, false, false, false, false, false, false, false, false, false, false, false, false, false, false, false, false, false, false, false, false, false, false, false, false, false] (by kernel_rfl) rfl rfl HB.out (fun hHeld => ?_); refine with_tabW zigguratlaw30_StoreMended.tab12 zigguratlaw30_StoreMended.bits12 (fun HT_ HW_ => ?_)
                          generalize w46.drew = w50 at HO338 HO341 HO346 HO349 HO354 HO358 HO364 HO374 BK334 HB hHeld ⊢
                          refine pure_ (i := 0) (N := some 65) (v := ?_) (a' := ?_) #[true, false, false, false, false, false, false, false, false, false, false, false, false, false, false, false, false, false, false, false, false, false, false, false, false, false, false, false, false, false, false, false, false, false, false, false, false, false, false, false, false, false, false] rfl rfl (any_of HT_.out (by kernel_rfl)) (fun _ _ _ h => h) (Or.inl ⟨by rfl, ?_⟩) ?_ ?_
                          rotate_left
                          · intro w'
                            go_simp
                            with_reducible rfl
                          rotate_left
                          · simp only [Act.put, List.setIfInBounds_toArray, List.set_cons_zero, List.set_cons_succ, i64_w, i32_w]
                            rfl
                          refine pure_ (i := 1) (N := some 66) (v := ?_) (a' := ?_) #[true, true, false, false, false, false, false, false, false, false, false, false, false, false, false, false, false, false, false, false, false, false, false, false, false, false, false, false, false, false, false, false, false, false, false, false, false, false, false, false, false, false, false] rfl rfl (any_of HT_.out (by kernel_rfl)) (fun _ _ _ h => h) (Or.inl ⟨by rfl, ?_⟩) ?_ ?_
                          rotate_left
                          · intro w'
                            go_simp
                            with_reducible rfl
                          rotate_left
                          · simp only [Act.put, List.setIfInBounds_toArray, List.set_cons_zero, List.set_cons_succ, i64_w, i32_w]
                            rfl
                          refine pure_ (i := 2) (N := some 67) (v := ?_) (a' := ?_) #[true, true, true, false, false, false, false, false, false, false, false, false, false, false, false, false, false, false, false, false, false, false, false, false, false, false, false, false, false, false, false, false, false, false, false, false, false, false, false, false, false, false, false] rfl rfl (any_of HT_.out (by kernel_rfl)) (fun _ _ _ h => h) (Or.inl ⟨by rfl, ?_⟩) ?_ ?_
                          rotate_left
                          · intro w'
                            go_simp
                            with_reducible rfl
                          rotate_left
                          · simp only [Act.put, List.setIfInBounds_toArray, List.set_cons_zero, List.set_cons_succ, i64_w, i32_w]
                            rfl
                          refine pure_ (i := 3) (N := some 68) (v := ?_) (a' := ?_) #[true, true, true, true, false, false, false, false, false, false, false, false, false, false, false, false, false, false, false, false, false, false, false, false, false, false, false, false, false, false, false, false, false, false, false, false, false, false, false, false, false, false, false] rfl rfl (any_of HT_.out (by kernel_rfl)) (fun _ _ _ h => h) (Or.inl ⟨by rfl, ?_⟩) ?_ ?_
                          rotate_left
                          · intro w'
                            go_simp
                            with_reducible rfl
                          rotate_left
                          · simp only [Act.put, List.setIfInBounds_toArray, List.set_cons_zero, List.set_cons_succ, i64_w, i32_w]
                            rfl
                          refine pure_ (i := 4) (N := some 69) (v := ?_) (a' := ?_) #[true, true, true, true, true, false, false, false, false, false, false, false, false, false, false, false, false, false, false, false, false, false, false, false, false, false, false, false, false, false, false, false, false, false, false, false, false, false, false, false, false, false, false] rfl rfl (any_of HT_.out (by kernel_rfl)) (fun _ _ _ h => h) (Or.inl ⟨by rfl, ?_⟩) ?_ ?_
                          rotate_left
                          · intro w'
                            go_simp
                            with_reducible rfl
                          rotate_left
                          · simp only [Act.put, List.setIfInBounds_toArray, List.set_cons_zero, List.set_cons_succ, i64_w, i32_w]
                            rfl
                          refine pure_ (i := 5) (N := some 70) (v := ?_) (a' := ?_) #[true, true, true, true, true, true, false, false, false, false, false, false, false, false, false, false, false, false, false, false, false, false, false, false, false, false, false, false, false, false, false, false, false, false, false, false, false, false, false, false, false, false, false] rfl rfl (any_of HT_.out (by kernel_rfl)) (fun _ _ _ h => h) (Or.inl ⟨by rfl, ?_⟩) ?_ ?_
                          rotate_left
                          · intro w'
                            go_simp
                            with_reducible rfl
                          rotate_left
                          · simp only [Act.put, List.setIfInBounds_toArray, List.set_cons_zero, List.set_cons_succ, i64_w, i32_w]
                            rfl
                          refine pure_ (i := 6) (N := some 71) (v := ?_) (a' := ?_) #[true, true, true, true, true, true, true, false, false, false, false, false, false, false, false, false, false, false, false, false, false, false, false, false, false, false, false, false, false, false, false, false, false, false, false, false, false, false, false, false, false, false, false] rfl rfl (any_of HT_.out (by kernel_rfl)) (fun _ _ _ h => h) (Or.inl ⟨by rfl, ?_⟩) ?_ ?_
                          rotate_left
                          · intro w'
                            go_simp
                            with_reducible rfl
                          rotate_left
                          · simp only [Act.put, List.setIfInBounds_toArray, List.set_cons_zero, List.set_cons_succ, i64_w, i32_w]
                            rfl
                          refine pure_ (i := 7) (N := some 72) (v := ?_) (a' := ?_) #[true, true, true, true, true, true, true, true, false, false, false, false, false, false, false, false, false, false, false, false, false, false, false, false, false, false, false, false, false, false, false, false, false, false, false, false, false, false, false, false, false, false, false] rfl rfl (any_of HT_.out (by kernel_rfl)) (fun _ _ _ h => h) (Or.inl ⟨by rfl, ?_⟩) ?_ ?_
                          rotate_left
                          · intro w'
                            go_simp
                            with_reducible rfl
                          rotate_left
                          · simp only [Act.put, List.setIfInBounds_toArray, List.set_cons_zero, List.set_cons_succ, i64_w, i32_w]
                            rfl
                          refine pure_ (i := 8) (N := some 73) (v := ?_) (a' := ?_) #[true, true, true, true, true, true, true, true, true, false, false, false, false, false, false, false, false, false, false, false, false, false, false, false, false, false, false, false, false, false, false, false, false, false, false, false, false, false, false, false, false, false, false] rfl rfl (any_of HT_.out (by kernel_rfl)) (fun _ _ _ h => h) (Or.inl ⟨by rfl, ?_⟩) ?_ ?_
                          rotate_left
                          · intro w'
                            go_simp
                            with_reducible rfl
                          rotate_left
                          · simp only [Act.put, List.setIfInBounds_toArray, List.set_cons_zero, List.set_cons_succ, i64_w, i32_w]
                            rfl
                          refine pure_ (i := 9) (N := some 74) (v := ?_) (a' := ?_) #[true, true, true, true, true, true, true, true, true, true, false, false, false, false, false, false, false, false, false, false, false, false, false, false, false, false, false, false, false, false, false, false, false, false, false, false, false, false, false, false, false, false, false] rfl rfl (any_of HT_.out (by kernel_rfl)) (fun _ _ _ h => h) (Or.inl ⟨by rfl, ?_⟩) ?_ ?_
                          rotate_left
                          · intro w'
                            go_simp
                            with_reducible rfl
                          rotate_left
                          · simp only [Act.put, List.setIfInBounds_toArray, List.set_cons_zero, List.set_cons_succ, i64_w, i32_w]
                            rfl
                          refine pure_ (i := 10) (N := some 75) (v := ?_) (a' := ?_) #[true, true, true, true, true, true, true, true, true, true, true, false, false, false, false, false, false, false, false, false, false, false, false, false, false, false, false, false, false, false, false, false, false, false, false, false, false, false, false, false, false, false, false] rfl rfl (any_of HT_.out (by kernel_rfl)) (fun _ _ _ h => h) (Or.inl ⟨by rfl, ?_⟩) ?_ ?_
                          rotate_left
                          · intro w'
                            go_simp
                            with_reducible rfl
                          rotate_left
                          · simp only [Act.put, List.setIfInBounds_toArray, List.set_cons_zero, List.set_cons_succ, i64_w, i32_w]
                            rfl
                          refine pure_ (i := 11) (N := some 76) (v := ?_) (a' := ?_) #[true, true, true, true, true, true, true, true, true, true, true, true, false, false, false, false, false, false, false, false, false, false, false, false, false, false, false, false, false, false, false, false, false, false, false, false, false, false, false, false, false, false, false] rfl rfl (any_of HT_.out (by kernel_rfl)) (fun _ _ _ h => h) (Or.inl ⟨by rfl, ?_⟩) ?_ ?_
                          rotate_left
                          · intro w'
                            go_simp
                            with_reducible rfl
                          rotate_left
                          · simp only [Act.put, List.setIfInBounds_toArray, List.set_cons_zero, List.set_cons_succ, i64_w, i32_w]
                            rfl
                          refine pure_ (i := 12) (N := some 77) (v := ?_) (a' := ?_) #[true, true, true, true, true, true, true, true, true, true, true, true, true, false, false, false, false, false, false, false, false, false, false, false, false, false, false, false, false, false, false, false, false, false, false, false, false, false, false, false, false, false, false] rfl rfl (any_of HT_.out (by kernel_rfl)) (fun _ _ _ h => h) (Or.inl ⟨by rfl, ?_⟩) ?_ ?_
                          rotate_left
                          · intro w'
                            go_simp
                            with_reducible rfl
                          rotate_left
                          · simp only [Act.put, List.setIfInBounds_toArray, List.set_cons_zero, List.set_cons_succ, i64_w, i32_w]
                            rfl
                          refine pure_ (i := 13) (N := some 78) (v := ?_) (a' := ?_) #[true, true, true, true, true, true, true, true, true, true, true, true, true, true, false, false, false, false, false, false, false, false, false, false, false, false, false, false, false, false, false, false, false, false, false, false, false, false, false, false, false, false, false] rfl rfl (any_of HT_.out (by kernel_rfl)) (fun _ _ _ h => h) (Or.inl ⟨by rfl, ?_⟩) ?_ ?_
                          rotate_left
                          · intro w'
                            go_simp
                            with_reducible rfl
                          rotate_left
                          · simp only [Act.put, List.setIfInBounds_toArray, List.set_cons_zero, List.set_cons_succ, i64_w, i32_w]
                            rfl
                          refine pure_ (i := 14) (N := some 79) (v := ?_) (a' := ?_) #[true, true, true, true, true, true, true, true, true, true, true, true, true, true, true, false, false, false, false, false, false, false, false, false, false, false, false, false, false, false, false, false, false, false, false, false, false, false, false, false, false, false, false] rfl rfl (any_of HT_.out (by kernel_rfl)) (fun _ _ _ h => h) (Or.inl ⟨by rfl, ?_⟩) ?_ ?_
                          rotate_left
                          · intro w'
                            go_simp
                            with_reducible rfl
                          rotate_left
                          · simp only [Act.put, List.setIfInBounds_toArray, List.set_cons_zero, List.set_cons_succ, i64_w, i32_w]
                            rfl
                          refine pure_ (i := 15) (N := some 80) (v := ?_) (a' := ?_) #[true, true, true, true, true, true, true, true, true, true, true, true, true, true, true, true, false, false, false, false, false, false, false, false, false, false, false, false, false, false, false, false, false, false, false, false, false, false, false, false, false, false, false] rfl rfl (any_of HT_.out (by kernel_rfl)) (fun _ _ _ h => h) (Or.inl ⟨by rfl, ?_⟩) ?_ ?_
                          rotate_left
                          · intro w'
                            go_simp
                            with_reducible rfl
                          rotate_left
                          · simp only [Act.put, List.setIfInBounds_toArray, List.set_cons_zero, List.set_cons_succ, i64_w, i32_w]
                            rfl
                          refine pure_ (i := 16) (N := some 81) (v := ?_) (a' := ?_) #[true, true, true, true, true, true, true, true, true, true, true, true, true, true, true, true, true, false, false, false, false, false, false, false, false, false, false, false, false, false, false, false, false, false, false, false, false, false, false, false, false, false, false] rfl rfl (any_of HT_.out (by kernel_rfl)) (fun _ _ _ h => h) (Or.inl ⟨by rfl, ?_⟩) ?_ ?_
                          rotate_left
                          · intro w'
                            go_simp
                            with_reducible rfl
                          rotate_left
                          · simp only [Act.put, List.setIfInBounds_toArray, List.set_cons_zero, List.set_cons_succ, i64_w, i32_w]
                            rfl
                          refine pure_ (i := 17) (N := some 82) (v := ?_) (a' := ?_) #[true, true, true, true, true, true, true, true, true, true, true, true, true, true, true, true, true, true, false, false, false, false, false, false, false, false, false, false, false, false, false, false, false, false, false, false, false, false, false, false, false, false, false] rfl rfl (any_of HT_.out (by kernel_rfl)) (fun _ _ _ h => h) (Or.inl ⟨by rfl, ?_⟩) ?_ ?_
                          rotate_left
                          · intro w'
                            go_simp
                            with_reducible rfl
                          rotate_left
                          · simp only [Act.put, List.setIfInBounds_toArray, List.set_cons_zero, List.set_cons_succ, i64_w, i32_w]
                            rfl
                          refine pure_ (i := 18) (N := some 83) (v := ?_) (a' := ?_) #[true, true, true, true, true, true, true, true, true, true, true, true, true, true, true, true, true, true, true, false, false, false, false, false, false, false, false, false, false, false, false, false, false, false, false, false, false, false, false, false, false, false, false] rfl rfl (any_of HT_.out (by kernel_rfl)) (fun _ _ _ h => h) (Or.inl ⟨by rfl, ?_⟩) ?_ ?_
                          rotate_left
                          · intro w'
                            go_simp
                            with_reducible rfl
                          rotate_left
                          · simp only [Act.put, List.setIfInBounds_toArray, List.set_cons_zero, List.set_cons_succ, i64_w, i32_w]
                            rfl
                          refine one_ (i := 19) (N := some 84) #[true, true, true, true, true, true, true, true, true, true, true, true, true, true, true, true, true, true, true, true, false, false, false, false, false, false, false, false, false, false, false, false, false, false, false, false, false, false, false, false, false, false, false] rfl rfl (one_of HT_.out (by kernel_rfl)) (by decide) (fun K hK => ?_)
                          refine goes_ Tryd.func16 (by kernel_rfl) rfl #[.slice Ao45 t342.length co45, .slice Ao47 t350.length co47] (by rfl) rfl rfl (by (try simp only [List.map_toArray, List.map_cons, List.map_nil]); first | done | rfl | (simp only [List.length_drop, List.length_take]; rfl)) ?_
                          with_reducible refine (zigguratref30_Same.calls k _ _ t342 _ _ t350 true _ ?side1 ?side2 ?side3 ?side4 A20.out).mono ?_
                          (case side1 => repeat (first | exact (Kd.R_reads' HO346.out).2.2 | (with_reducible refine Kd.C_alloc ?_ _) | (with_reducible refine Kd.C_drewN ?_ _) | (with_reducible refine Kd.C_drew ?_)))
                          (case side2 => exact (Kd.R_reads' HO346.out).2.1)
                          (case side3 => repeat (first | exact (Kd.R_reads' HO354.out).2.2 | (with_reducible refine Kd.C_alloc ?_ _) | (with_reducible refine Kd.C_drewN ?_ _) | (with_reducible refine Kd.C_drew ?_)))
                          (case side4 => exact (Kd.R_reads' HO354.out).2.1)
                          rintro e w' ⟨rfl, ⟨nd, rfl⟩⟩
                          refine ⟨_, rfl, ?_⟩
                          refine hK.out _ _ (by repeat (first | (with_reducible first | exact HB.out | apply below_alloc | apply pw_below_drewN | apply below_drew1 | refine below_set ?_ GE334.out) | exact HB.out)) (fun hHeld => ?_)
                          clear hK K
                          refine norm_ (a' := ?_) ?_ ?_
                          rotate_left
                          · show Act.put _ (some 84) _ = _
                            simp only [Act.put, List.setIfInBounds_toArray, List.set_cons_zero, List.set_cons_succ, i64_w, i32_w]
                            rfl
                          refine pure_ (i := 20) (N := some 85) (v := ?_) (a' := ?_) #[true, true, true, true, true, true, true, true, true, true, true, true, true, true, true, true, true, true, true, true, true, false, false, false, false, false, false, false, false, false, false, false, false, false, false, false, false, false, false, false, false, false, false] rfl rfl (any_of HT_.out (by kernel_rfl)) (fun _ _ _ h => h) (Or.inl ⟨by rfl, ?_⟩) ?_ ?_
                          rotate_left
                          · intro w'
                            go_simp
                            with_reducible rfl
                          rotate_left
                          · simp only [Act.put, List.setIfInBounds_toArray, List.set_cons_zero, List.set_cons_succ, i64_w, i32_w]
                            rfl
                          refine pure_ (i := 21) (N := some 86) (v := ?_) (a' := ?_) #[true, true, true, true, true, true, true, true, true, true, true, true, true, true, true, true, true, true, true, true, true, true, false, false, false, false, false, false, false, false, false, false, false, false, false, false, false, false, false, false, false, false, false] rfl rfl (any_of HT_.out (by kernel_rfl)) (fun _ _ _ h => h) (Or.inl ⟨by rfl, ?_⟩) ?_ ?_
                          rotate_left
                          · intro w'
                            go_simp
                            with_reducible rfl
                          rotate_left
                          · simp only [Act.put, List.setIfInBounds_toArray, List.set_cons_zero, List.set_cons_succ, i64_w, i32_w]
                            rfl
                          refine pure_ (i := 22) (N := some 87) (v := ?_) (a' := ?_) #[true, true, true, true, true, true, true, true, true, true, true, true, true, true, true, true, true, true, true, true, true, true, true, false, false, false, false, false, false, false, false, false, false, false, false, false, false, false, false, false, false, false, false] rfl rfl (any_of HT_.out (by kernel_rfl)) (fun _ _ _ h => h) (Or.inl ⟨by rfl, ?_⟩) ?_ ?_
                          rotate_left
                          · intro w'
                            go_simp
                            with_reducible rfl
                          rotate_left
                          · simp only [Act.put, List.setIfInBounds_toArray, List.set_cons_zero, List.set_cons_succ, i64_w, i32_w]
                            rfl
                          refine pure_ (i := 23) (N := some 88) (v := ?_) (a' := ?_) #[true, true, true, true, true, true, true, true, true, true, true, true, true, true, true, true, true, true, true, true, true, true, true, true, false, false, false, false, false, false, false, false, false, false, false, false, false, false, false, false, false, false, false] rfl rfl (any_of HT_.out (by kernel_rfl)) (fun _ _ _ h => h) (Or.inl ⟨by rfl, ?_⟩) ?_ ?_
                          rotate_left
                          · intro w'
                            go_simp
                            with_reducible rfl
                          rotate_left
                          · simp only [Act.put, List.setIfInBounds_toArray, List.set_cons_zero, List.set_cons_succ, i64_w, i32_w]
                            rfl
                          refine pure_ (i := 24) (N := some 89) (v := ?_) (a' := ?_) #[true, true, true, true, true, true, true, true, true, true, true, true, true, true, true, true, true, true, true, true, true, true, true, true, true, false, false, false, false, false, false, false, false, false, false, false, false, false, false, false, false, false, false] rfl rfl (any_of HT_.out (by kernel_rfl)) (fun _ _ _ h => h) (Or.inl ⟨by rfl, ?_⟩) ?_ ?_
                          rotate_left
                          · intro w'
                            go_simp
                            with_reducible rfl
                          rotate_left
                          · simp only [Act.put, List.setIfInBounds_toArray, List.set_cons_zero, List.set_cons_succ, i64_w, i32_w]
                            rfl
                          refine pure_ (i := 25) (N := some 90) (v := ?_) (a' := ?_) #[true, true, true, true, true, true, true, true, true, true, true, true, true, true, true, true, true, true, true, true, true, true, true, true, true, true, false, false, false, false, false, false, false, false, false, false, false, false, false, false, false, false, false] rfl rfl (any_of HT_.out (by kernel_rfl)) (fun _ _ _ h => h) (Or.inl ⟨by rfl, ?_⟩) ?_ ?_
                          rotate_left
                          · intro w'
                            go_simp
                            with_reducible rfl
                          rotate_left
                          · simp only [Act.put, List.setIfInBounds_toArray, List.set_cons_zero, List.set_cons_succ, i64_w, i32_w]
                            rfl
                          refine pure_ (i := 26) (N := some 91) (v := ?_) (a' := ?_) #[true, true, true, true, true, true, true, true, true, true, true, true, true, true, true, true, true, true, true, true, true, true, true, true, true, true, true, false, false, false, false, false, false, false, false, false, false, false, false, false, false, false, false] rfl rfl (any_of HT_.out (by kernel_rfl)) (fun _ _ _ h => h) (Or.inl ⟨by rfl, ?_⟩) ?_ ?_
                          rotate_left
                          · intro w'
                            go_simp
                            with_reducible rfl
                          rotate_left
                          · simp only [Act.put, List.setIfInBounds_toArray, List.set_cons_zero, List.set_cons_succ, i64_w, i32_w]
                            rfl
                          refine pure_ (i := 27) (N := some 92) (v := ?_) (a' := ?_) #[true, true, true, true, true, true, true, true, true, true, true, true, true, true, true, true, true, true, true, true, true, true, true, true, true, true, true, true, false, false, false, false, false, false, false, false, false, false, false, false, false, false, false] rfl rfl (any_of HT_.out (by kernel_rfl)) (fun _ _ _ h => h) (Or.inl ⟨by rfl, ?_⟩) ?_ ?_
                          rotate_left
                          · intro w'
                            go_simp
                            with_reducible rfl
                          rotate_left
                          · simp only [Act.put, List.setIfInBounds_toArray, List.set_cons_zero, List.set_cons_succ, i64_w, i32_w]
                            rfl
                          refine pure_ (i := 28) (N := some 93) (v := ?_) (a' := ?_) #[true, true, true, true, true, true, true, true, true, true, true, true, true, true, true, true, true, true, true, true, true, true, true, true, true, true, true, true, true, false, false, false, false, false, false, false, false, false, false, false, false, false, false] rfl rfl (any_of HT_.out (by kernel_rfl)) (fun _ _ _ h => h) (Or.inl ⟨by rfl, ?_⟩) ?_ ?_
                          rotate_left
                          · intro w'
                            go_simp
                            with_reducible rfl
                          rotate_left
                          · simp only [Act.put, List.setIfInBounds_toArray, List.set_cons_zero, List.set_cons_succ, i64_w, i32_w]
                            rfl
                          refine pure_ (i := 29) (N := some 94) (v := ?_) (a' := ?_) #[true, true, true, true, true, true, true, true, true, true, true, true, true, true, true, true, true, true, true, true, true, true, true, true, true, true, true, true, true, true, false, false, false, false, false, false, false, false, false, false, false, false, false] rfl rfl (any_of HT_.out (by kernel_rfl)) (fun _ _ _ h => h) (Or.inl ⟨by rfl, ?_⟩) ?_ ?_
                          rotate_left
                          · intro w'
                            go_simp
                            with_reducible rfl
                          rotate_left
                          · simp only [Act.put, List.setIfInBounds_toArray, List.set_cons_zero, List.set_cons_succ, i64_w, i32_w]
                            rfl
                          refine pure_ (i := 30) (N := some 95) (v := ?_) (a' := ?_) #[true, true, true, true, true, true, true, true, true, true, true, true, true, true, true, true, true, true, true, true, true, true, true, true, true, true, true, true, true, true, true, false, false, false, false, false, false, false, false, false, false, false, false] rfl rfl (any_of HT_.out (by kernel_rfl)) (fun _ _ _ h => h) (Or.inl ⟨by rfl, ?_⟩) ?_ ?_
                          rotate_left
                          · intro w'
                            go_simp
                            with_reducible rfl
                          rotate_left
                          · simp only [Act.put, List.setIfInBounds_toArray, List.set_cons_zero, List.set_cons_succ, i64_w, i32_w]
                            rfl
                          refine pure_ (i := 31) (N := some 96) (v := ?_) (a' := ?_) #[true, true, true, true, true, true, true, true, true, true, true, true, true, true, true, true, true, true, true, true, true, true, true, true, true, true, true, true, true, true, true, true, false, false, false, false, false, false, false, false, false, false, false] rfl rfl (any_of HT_.out (by kernel_rfl)) (fun _ _ _ h => h) (Or.inl ⟨by rfl, ?_⟩) ?_ ?_
                          rotate_left
                          · intro w'
                            go_simp
                            with_reducible rfl
                          rotate_left
                          · simp only [Act.put, List.setIfInBounds_toArray, List.set_cons_zero, List.set_cons_succ, i64_w, i32_w]
                            rfl
                          refine one_ (i := 32) (N := some 97) #[true, true, true, true, true, true, true, true, true, true, true, true, true, true, true, true, true, true, true, true, true, true, true, true, true, true, true, true, true, true, true, true, true, false, false, false, false, false, false, false, false, false, false] rfl rfl (one_of HT_.out (by kernel_rfl)) (by decide) (fun K hK => ?_)
                          refine goes_ Tryd.func16 (by kernel_rfl) rfl #[.slice Ao48 t360.length co48, .slice Ao49 y372.length co49] (by rfl) rfl rfl (by (try simp only [List.map_toArray, List.map_cons, List.map_nil]); first | done | rfl | (simp only [List.length_drop, List.length_take]; rfl)) ?_
                          with_reducible refine (zigguratref30_Same.calls k _ _ t360 _ _ y372 true _ ?side1 ?side2 ?side3 ?side4 A24.out).mono ?_
                          (case side1 => repeat (first | exact (Kd.R_reads' HO364.out).2.2 | (with_reducible refine Kd.C_alloc ?_ _) | (with_reducible refine Kd.C_drewN ?_ _) | (with_reducible refine Kd.C_drew ?_)))
                          (case side2 => exact (Kd.R_reads' HO364.out).2.1)
                          (case side3 => repeat (first | exact (Kd.R_reads' HO374.out).2.2 | (with_reducible refine Kd.C_alloc ?_ _) | (with_reducible refine Kd.C_drewN ?_ _) | (with_reducible refine Kd.C_drew ?_)))
                          (case side4 => exact (Kd.R_reads' HO374.out).2.1)
                          rintro e w' ⟨rfl, ⟨nd, rfl⟩⟩
                          refine ⟨_, rfl, ?_⟩
                          refine hK.out _ _ (by repeat (first | (with_reducible first | exact HB.out | apply below_alloc | apply pw_below_drewN | apply below_drew1 | refine below_set ?_ GE334.out) | exact HB.out)) (fun hHeld => ?_)
                          clear hK K
                          refine norm_ (a' := ?_) ?_ ?_
                          rotate_left
                          · show Act.put _ (some 97) _ = _
                            simp only [Act.put, List.setIfInBounds_toArray, List.set_cons_zero, List.set_cons_succ, i64_w, i32_w]
                            rfl
                          refine pure_ (i := 33) (N := some 98) (v := ?_) (a' := ?_) #[true, true, true, true, true, true, true, true, true, true, true, true, true, true, true, true, true, true, true, true, true, true, true, true, true, true, true, true, true, true, true, true, true, true, false, false, false, false, false, false, false, false, false] rfl rfl (any_of HT_.out (by kernel_rfl)) (fun _ _ _ h => h) (Or.inl ⟨by rfl, ?_⟩) ?_ ?_
                          rotate_left
                          · intro w'
                            go_simp
                            with_reducible rfl
                          rotate_left
                          · simp only [Act.put, List.setIfInBounds_toArray, List.set_cons_zero, List.set_cons_succ, i64_w, i32_w]
                            rfl
                          refine pure_ (i := 34) (N := some 99) (v := ?_) (a' := ?_) #[true, true, true, true, true, true, true, true, true, true, true, true, true, true, true, true, true, true, true, true, true, true, true, true, true, true, true, true, true, true, true, true, true, true, true, false, false, false, false, false, false, false, false] rfl rfl (any_of HT_.out (by kernel_rfl)) (fun _ _ _ h => h) (Or.inl ⟨by rfl, ?_⟩) ?_ ?_
                          rotate_left
                          · intro w'
                            go_simp
                            with_reducible rfl
                          rotate_left
                          · simp only [Act.put, List.setIfInBounds_toArray, List.set_cons_zero, List.set_cons_succ, i64_w, i32_w]
                            rfl
                          refine pure_ (i := 35) (N := some 100) (v := ?_) (a' := ?_) #[true, true, true, true, true, true, true, true, true, true, true, true, true, true, true, true, true, true, true, true, true, true, true, true, true, true, true, true, true, true, true, true, true, true, true, true, false, false, false, false, false, false, false] rfl rfl (any_of HT_.out (by kernel_rfl)) (fun _ _ _ h => h) (Or.inl ⟨by rfl, ?_⟩) ?_ ?_
                          rotate_left
                          · intro w'
                            go_simp
                            with_reducible rfl
                          rotate_left
                          · simp only [Act.put, List.setIfInBounds_toArray, List.set_cons_zero, List.set_cons_succ, i64_w, i32_w]
                            rfl
                          refine pure_ (i := 38) (N := some 103) (v := ?_) (a' := ?_) #[true, true, true, true, true, true, true, true, true, true, true, true, true, true, true, true, true, true, true, true, true, true, true, true, true, true, true, true, true, true, true, true, true, true, true, true, false, false, true, false, false, false, false] rfl rfl (any_of HT_.out (by kernel_rfl)) (fun _ _ _ h => h) (Or.inl ⟨by rfl, ?_⟩) ?_ ?_
                          rotate_left
                          · intro w'
                            go_simp
                            with_reducible rfl
                          rotate_left
                          · simp only [Act.put, List.setIfInBounds_toArray, List.set_cons_zero, List.set_cons_succ, i64_w, i32_w]
                            rfl
                          refine take_ (i := 39) (N := some 104) (v := ?_) (a' := ?_) #[true, true, true, true, true, true, true, true, true, true, true, true, true, true, true, true, true, true, true, true, true, true, true, true, true, true, true, true, true, true, true, true, true, true, true, true, false, false, true, true, false, false, false] rfl rfl (take_of HT_.out (by kernel_rfl)) (fun _ _ _ h => h) (Or.inl ⟨by rfl, ?_⟩) (by repeat (first | (with_reducible first | exact HB.out | apply below_alloc | apply pw_below_drewN | apply below_drew1 | refine below_set ?_ GE334.out) | exact HB.out)) ?_ ?_
                          rotate_left
                          · intro w' hS_
                            have hcvS_ := Kd.C_string (P := Tryd.prog) (A := A0) (c := t347.length) Tryd.underlying22 Tryd.underlying5 Tryd.underlying9 (Kd.C_below HW349.out hS_)
                            go_simp
                            with_reducible rfl
                          rotate_left
                          · simp only [Act.put, List.setIfInBounds_toArray, List.set_cons_zero, List.set_cons_succ, i64_w, i32_w]
                            rfl
                          refine one_ (i := 36) (N := some 101) #[true, true, true, true, true, true, true, true, true, true, true, true, true, true, true, true, true, true, true, true, true, true, true, true, true, true, true, true, true, true, true, true, true, true, true, true, true, false, true, true, false, false, false] rfl rfl (one_of HT_.out (by kernel_rfl)) (by decide) (fun K hK => ?_)
                          refine goes_ Tryd.func19 (by kernel_rfl) rfl #[.slice A0 t347.length t347.length] (by rfl) rfl rfl (by (try simp only [List.map_toArray, List.map_cons, List.map_nil]); first | done | rfl | (simp only [List.length_drop, List.length_take]; rfl)) ?_
                          with_reducible refine (store_Repair.calls _ _ t347 t377 _ ?side0 ?side1 ?side2 A26.out).mono ?_
                          (case side0 => exact GOK.below HG.out (by repeat (first | (with_reducible first | exact HB.out | apply below_alloc | apply pw_below_drewN | apply below_drew1) | exact HB.out)))
                          (case side1 => repeat (first | exact (Kd.C_below HW349.out (by repeat (first | (with_reducible first | exact HB.out | apply below_alloc | apply pw_below_drewN | apply below_drew1 | refine below_set ?_ GE334.out) | exact HB.out))) | (with_reducible refine Kd.C_alloc ?_ _) | (with_reducible refine Kd.C_drewN ?_ _) | (with_reducible refine Kd.C_drew ?_)))
                          (case side2 => exact LHO349.out)
                          rintro e w51 ⟨AHO379, cHO379, rfl, hl0, ho0, hb⟩
                          have LHO379 := Aside0.mk hl0
                          clear hl0
                          refine ⟨_, rfl, ?_⟩
                          have n0_ := Aside0.mk (Kd.R_below (by (with_reducible repeat (first | apply Kd.R_alloc | apply Kd.R_drewN | apply Kd.R_drew)); exact HO338.out) hb)
                          have n1_ := Aside0.mk (Kd.R_below (by (with_reducible repeat (first | apply Kd.R_alloc | apply Kd.R_drewN | apply Kd.R_drew)); exact HO341.out) hb)
                          have n2_ := Aside0.mk (Kd.R_below (by (with_reducible repeat (first | apply Kd.R_alloc | apply Kd.R_drewN | apply Kd.R_drew)); exact HO346.out) hb)
                          have n3_ := Aside0.mk True.intro
                          have n4_ := Aside0.mk (Kd.R_below (by (with_reducible repeat (first | apply Kd.R_alloc | apply Kd.R_drewN | apply Kd.R_drew)); exact HO354.out) hb)
                          have n5_ := Aside0.mk (Kd.R_below (by (with_reducible repeat (first | apply Kd.R_alloc | apply Kd.R_drewN | apply Kd.R_drew)); exact HO358.out) hb)
                          have n6_ := Aside0.mk (Kd.R_below (by (with_reducible repeat (first | apply Kd.R_alloc | apply Kd.R_drewN | apply Kd.R_drew)); exact HO364.out) hb)
                          have n7_ := Aside0.mk (Kd.R_below (by (with_reducible repeat (first | apply Kd.R_alloc | apply Kd.R_drewN | apply Kd.R_drew)); exact HO374.out) hb)
                          have n8_ := Aside0.mk ho0
                          have n9_ := Aside0.mk (blk_below (g := gb334) (o := .cells #[.string a1_0, .string a1_1] 24 (0, 0)) (by (with_reducible repeat (first | refine blk_drewN ?_ _ | refine blk_drew ?_ | refine blk_alloc ?_ _)); exact BK334.out) hb)
                          have n10_ := Aside0.mk (below_step (by repeat (first | (with_reducible first | exact HB.out | apply below_alloc | apply pw_below_drewN | apply below_drew1 | refine below_set ?_ GE334.out) | exact HB.out)) hb)
                          clear HO338
                          clear HO341
                          clear HO346
                          clear HO349
                          clear HO354
                          clear HO358
                          clear HO364
                          clear HO374
                          clear BK334
                          clear HB
                          have HO338 := n0_
                          have HO341 := n1_
                          have HO346 := n2_
                          have HO349 := n3_
                          have HO354 := n4_
                          have HO358 := n5_
                          have HO364 := n6_
                          have HO374 := n7_
                          have HO379 := n8_
                          have BK334 := n9_
                          have HB := n10_
                          clear n0_ n1_ n2_ n3_ n4_ n5_ n6_ n7_ n8_ n9_ n10_
                          (try clear hb)
                          (try clear hb2)
                          (try clear hk)
                          (try clear hi)
                          (try clear ho0)
                          have hcv53 := Kd.C_string (P := Tryd.prog) (c := t347.length) Tryd.underlying22 Tryd.underlying5 Tryd.underlying9 (Kd.C_below HW349.out HB.out)
                          refine hK.out _ _ (by repeat (first | (with_reducible first | exact HB.out | apply below_alloc | apply pw_below_drewN | apply below_drew1 | refine below_set ?_ GE334.out) | exact HB.out)) (fun hHeld => ?_)
                          clear hK K
                          refine norm_ (a' := ?_) ?_ ?_
                          rotate_left
                          · show Act.put _ (some 101) _ = _
                            simp only [Act.put, List.setIfInBounds_toArray, List.set_cons_zero, List.set_cons_succ, i64_w, i32_w]
                            rfl
                          refine one_ (i := 37) (N := some 102) #[true, true, true, true, true, true, true, true, true, true, true, true, true, true, true, true, true, true, true, true, true, true, true, true, true, true, true, true, true, true, true, true, true, true, true, true, true, true, true, true, false, false, false] rfl rfl (one_of HT_.out (by kernel_rfl)) (by decide) (fun K hK => ?_)
                          have hcv52 := Kd.C_string (P := Tryd.prog) (c := cHO379) Tryd.underlying22 Tryd.underlying5 Tryd.underlying9 HO379.out
                          refine value_ (w1 := ?_) (v := ?_) (by rfl) rfl ?_ ?_
                          rotate_left 2
                          · go_simp
                            constructor
                            · rfl
                            · rfl
                          clear hcv52
                          refine hK.out _ _ (by repeat (first | (with_reducible first | exact HB.out | apply below_alloc | apply pw_below_drewN | apply below_drew1 | refine below_set ?_ GE334.out) | exact HB.out)) (fun hHeld => ?_)
                          clear hK K
                          refine norm_ (a' := ?_) ?_ ?_
                          rotate_left
                          · show Act.put _ (some 102) _ = _
                            simp only [Act.put, List.setIfInBounds_toArray, List.set_cons_zero, List.set_cons_succ, i64_w, i32_w]
                            rfl
                          refine pure_ (i := 40) (N := some 105) (v := ?_) (a' := ?_) #[true, true, true, true, true, true, true, true, true, true, true, true, true, true, true, true, true, true, true, true, true, true, true, true, true, true, true, true, true, true, true, true, true, true, true, true, true, true, true, true, true, false, false] rfl rfl (any_of HT_.out (by kernel_rfl)) (fun _ _ _ h => h) (Or.inl ⟨by rfl, ?_⟩) ?_ ?_
                          rotate_left
                          · intro w'
                            go_simp
                            with_reducible rfl
                          rotate_left
                          · simp only [Act.put, List.setIfInBounds_toArray, List.set_cons_zero, List.set_cons_succ, i64_w, i32_w]
                            rfl
                          refine pure_ (i := 41) (N := some 106) (v := ?_) (a' := ?_) #[true, true, true, true, true, true, true, true, true, true, true, true, true, true, true, true, true, true, true, true, true, true, true, true, true, true, true, true, true, true, true, true, true, true, true, true, true, true, true, true, true, true, false] rfl rfl (any_of HT_.out (by kernel_rfl)) (fun _ _ _ h => h) (Or.inl ⟨by rfl, ?_⟩) ?_ ?_
                          rotate_left
                          · intro w'
                            go_simp
                            with_reducible rfl
                          rotate_left
                          · simp only [Act.put, List.setIfInBounds_toArray, List.set_cons_zero, List.set_cons_succ, i64_w, i32_w]
                            rfl
                          refine pure_ (i := 42) (N := some 4) (v := ?_) (a' := ?_) #[true, true, true, true, true, true, true, true, true, true, true, true, true, true, true, true, true, true, true, true, true, true, true, true, true, true, true, true, true, true, true, true, true, true, true, true, true, true, true, true, true, true, true] rfl rfl (any_of HT_.out (by kernel_rfl)) (fun _ _ _ h => h) (Or.inl ⟨by rfl, ?_⟩) ?_ ?_
                          rotate_left
                          · intro w'
                            go_simp
                            with_reducible rfl
                          rotate_left
                          · simp only [Act.put, List.setIfInBounds_toArray, List.set_cons_zero, List.set_cons_succ, i64_w, i32_w]
                            rfl
                          refine done_ (done_of HT_.out (by kernel_rfl)) ?_
                          try go_wp2
                          go_ret
                          exact ⟨by first | rfl | (simp [errW_none, errW_some] <;> rfl) | (simp [*, errW_none, errW_some] <;> rfl), by repeat (first | (with_reducible first | exact HB.out | apply below_alloc | apply pw_below_drewN | apply below_drew1 | refine below_set ?_ GE334.out) | exact HB.out)⟩
                        · replace c25 := Bool.eq_false_iff.mpr c25
                          subst c25
                          have H1 : (none) = some r := by rw [if_neg (show ¬ (false = true) by decide)] at H; exact H
                          clear H
                          have H := H1
                          clear H1
                          exact absurd H (by simp)
                      · rw [if_neg c23] at H
                        exact absurd H (by simp)
                    · rw [if_neg c22] at H
                      exact absurd H (by simp)
                  · replace c21 := Bool.eq_false_iff.mpr c21
                    subst c21
                    have H1 : (none) = some r := by rw [if_neg (show ¬ (false = true) by decide)] at H; exact H
                    clear H
                    have H := H1
                    clear H1
                    exact absurd H (by simp)
                · rw [if_neg c19] at H
                  exact absurd H (by simp)
              · rw [if_neg c18] at H
                exact absurd H (by simp)
            · rw [if_neg c17] at H
              exact absurd H (by simp)
          · replace c16 := Bool.eq_false_iff.mpr c16
            subst c16
            have H1 : (none) = some r := by rw [if_neg (show ¬ (false = true) by decide)] at H; exact H
            clear H
            have H := H1
            clear H1
            exact absurd H (by simp)
        · rw [if_neg c15] at H
          exact absurd H (by simp)
      · rw [if_neg c14] at H
        exact absurd H (by simp)
    · rw [if_neg c11] at H
      exact absurd H (by simp)

end Go.Proofs.YtkeegknadegaaaaDoor.Q
