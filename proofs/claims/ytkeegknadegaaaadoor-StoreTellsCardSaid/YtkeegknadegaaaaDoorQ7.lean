-- Written by a program of this session (a patched print) for this claim; Lean checks it.
import Derived.Test.YtkeegknadegaaaaDoorQ0
import Derived.Test.YtkeegknadegaaaaDoorHRep
import Derived.Test.YtkeegknadegaaaaDoorHApp
import Derived.Test.YtkeegknadegaaaaDoorHLit
import Derived.Test.YtkeegknadegaaaaDoorQ5
namespace Go.Proofs.YtkeegknadegaaaaDoor.Q
open Go.RowKit Go.Proofs.YtkeegknadegaaaaDoorW.PrintWords Go.Proofs.YtkeegknadegaaaaDoorW.PrintLast Go.Proofs.YtkeegknadegaaaaDoorW.PrintMore
attribute [local go_sem] max2_int min2_int max_two min_two max_three min_three max_four min_four   -- for this text's walks alone
set_option linter.unusedVariables false
set_option linter.unusedSimpArgs false

/-! ### zigguratlaw30_head: function 11 -/
def zigguratlaw30_head.f (k : Nat)  : Option (Bool) := (store_Append.f ([] : List Int) (⟨#[97]⟩ : ByteArray) (⟨#[98]⟩ : ByteArray)).bind fun bt103 => ((store_Append.f ([] : List Int) (⟨#[]⟩ : ByteArray) (⟨#[98]⟩ : ByteArray)).bind fun bt107 => (if (bt103.1.length : Int) = 11 then ((store_Read.f bt103.1).bind fun bt111 => (if 10 ≤ (bt103.1.length : Int) then ((store_Read.f (bt103.1.take 10)).bind fun bt120 => ((store_Read.f (([0, 0, 0, 0, 28, 223, 68, 33] : List Int))).bind fun bt128 => ((store_Sum.f (([49, 50, 51, 52, 53, 54, 55, 56, 57] : List Int))).bind fun t136 => (if t136 = 3421780262 then ((store_Sum.f ([] : List Int)).bind fun t137 => (if t137 = 0 then (if bt103.2 = 0 then (if bt107.2 = 1 then (if 0 < (bt103.1.length : Int) then (if (rd bt103.1 0) = 3 then (if 1 < (bt103.1.length : Int) then (if (rd bt103.1 1) = 0 then (if 4 < (bt103.1.length : Int) then (if (rd bt103.1 4) = 1 then (if 5 < (bt103.1.length : Int) then (if (rd bt103.1 5) = 97 then (if 6 < (bt103.1.length : Int) then (if (rd bt103.1 6) = 98 then ((zigguratref30_Same.f k bt111.1 (([(⟨(⟨#[97]⟩ : ByteArray), (⟨#[98]⟩ : ByteArray)⟩ : S24)] : List (S24)))).bind fun t146 => (if t146 = true then (if bt111.2.1 = 11 then (if bt111.2.2 = 0 then (if bt120.2.1 = 0 then (if bt120.2.2 = 301 then (if bt128.2.2 = 300 then ((store_Repair.f (bt103.1.take 10)).bind fun t151 => (some ((t151.length : Int) == 0))) else (none)) else (none)) else (none)) else (none)) else (none)) else (none))) else (none)) else (none)) else (none)) else (none)) else (none)) else (none)) else (none)) else (none)) else (none)) else (none)) else (none)) else (none)) else (none))) else (none))))) else (none))) else (none)))
theorem zigguratlaw30_head.mono : ∀ k, LeO (zigguratlaw30_head.f k ) (zigguratlaw30_head.f (k + 1) ) := by
  intro  k
  unfold zigguratlaw30_head.f
  repeat' first
      | (with_reducible exact zigguratref30_Same.mono _ _ _)
      | (with_reducible exact LeO.refl _)
      | (with_reducible exact LeO.none _)
      | (with_reducible refine LeO.ite ?_ ?_)
      | (with_reducible refine LeO.bind ?_ (fun _ => ?_))
      | exact zigguratref30_Same.mono _ _ _
      | exact LeO.none _
      | refine LeO.ite ?_ ?_
      | refine LeO.bind ?_ (fun _ => ?_)
set_option maxHeartbeats 8000000 in
set_option maxRecDepth 100000 in
theorem zigguratlaw30_head.calls (k : Nat)  (r : Bool) (w : World) (hg : GOK w) (h : zigguratlaw30_head.f k  = some r) :
    Calls Tryd.prog 11 #[] w fun e w' => e = .returned (.bool r) ∧ Below w.heap.size w w' := by
  have HG := Aside0.mk hg
  clear hg
  have hu24 := Tryd.underlying24
  have HB := Aside0.mk (Below.refl w.heap.size w)
  have H : ((store_Append.f ([] : List Int) (⟨#[97]⟩ : ByteArray) (⟨#[98]⟩ : ByteArray)).bind fun bt103 => ((store_Append.f ([] : List Int) (⟨#[]⟩ : ByteArray) (⟨#[98]⟩ : ByteArray)).bind fun bt107 => (if (bt103.1.length : Int) = 11 then ((store_Read.f bt103.1).bind fun bt111 => (if 10 ≤ (bt103.1.length : Int) then ((store_Read.f (bt103.1.take 10)).bind fun bt120 => ((store_Read.f (([0, 0, 0, 0, 28, 223, 68, 33] : List Int))).bind fun bt128 => ((store_Sum.f (([49, 50, 51, 52, 53, 54, 55, 56, 57] : List Int))).bind fun t136 => (if t136 = 3421780262 then ((store_Sum.f ([] : List Int)).bind fun t137 => (if t137 = 0 then (if bt103.2 = 0 then (if bt107.2 = 1 then (if 0 < (bt103.1.length : Int) then (if (rd bt103.1 0) = 3 then (if 1 < (bt103.1.length : Int) then (if (rd bt103.1 1) = 0 then (if 4 < (bt103.1.length : Int) then (if (rd bt103.1 4) = 1 then (if 5 < (bt103.1.length : Int) then (if (rd bt103.1 5) = 97 then (if 6 < (bt103.1.length : Int) then (if (rd bt103.1 6) = 98 then ((zigguratref30_Same.f k bt111.1 (([(⟨(⟨#[97]⟩ : ByteArray), (⟨#[98]⟩ : ByteArray)⟩ : S24)] : List (S24)))).bind fun t146 => (if t146 = true then (if bt111.2.1 = 11 then (if bt111.2.2 = 0 then (if bt120.2.1 = 0 then (if bt120.2.2 = 301 then (if bt128.2.2 = 300 then ((store_Repair.f (bt103.1.take 10)).bind fun t151 => (some ((t151.length : Int) == 0))) else (none)) else (none)) else (none)) else (none)) else (none)) else (none))) else (none)) else (none)) else (none)) else (none)) else (none)) else (none)) else (none)) else (none)) else (none)) else (none)) else (none)) else (none)) else (none))) else (none))))) else (none))) else (none)))) = some r := h
  clear h
  replace H := Option.bind_eq_some_iff.mp H
  obtain ⟨⟨t103, t106⟩, A10, H⟩ := H
  replace H : ((store_Append.f ([] : List Int) (⟨#[]⟩ : ByteArray) (⟨#[98]⟩ : ByteArray)).bind fun bt107 => (if (t103.length : Int) = 11 then ((store_Read.f t103).bind fun bt111 => (if 10 ≤ (t103.length : Int) then ((store_Read.f (t103.take 10)).bind fun bt120 => ((store_Read.f (([0, 0, 0, 0, 28, 223, 68, 33] : List Int))).bind fun bt128 => ((store_Sum.f (([49, 50, 51, 52, 53, 54, 55, 56, 57] : List Int))).bind fun t136 => (if t136 = 3421780262 then ((store_Sum.f ([] : List Int)).bind fun t137 => (if t137 = 0 then (if t106 = 0 then (if bt107.2 = 1 then (if 0 < (t103.length : Int) then (if (rd t103 0) = 3 then (if 1 < (t103.length : Int) then (if (rd t103 1) = 0 then (if 4 < (t103.length : Int) then (if (rd t103 4) = 1 then (if 5 < (t103.length : Int) then (if (rd t103 5) = 97 then (if 6 < (t103.length : Int) then (if (rd t103 6) = 98 then ((zigguratref30_Same.f k bt111.1 (([(⟨(⟨#[97]⟩ : ByteArray), (⟨#[98]⟩ : ByteArray)⟩ : S24)] : List (S24)))).bind fun t146 => (if t146 = true then (if bt111.2.1 = 11 then (if bt111.2.2 = 0 then (if bt120.2.1 = 0 then (if bt120.2.2 = 301 then (if bt128.2.2 = 300 then ((store_Repair.f (t103.take 10)).bind fun t151 => (some ((t151.length : Int) == 0))) else (none)) else (none)) else (none)) else (none)) else (none)) else (none))) else (none)) else (none)) else (none)) else (none)) else (none)) else (none)) else (none)) else (none)) else (none)) else (none)) else (none)) else (none)) else (none))) else (none))))) else (none))) else (none))) = some r := H
  have A1 := Aside0.mk A10
  clear A10
  replace H := Option.bind_eq_some_iff.mp H
  obtain ⟨⟨t107, t110⟩, A20, H⟩ := H
  replace H : (if (t103.length : Int) = 11 then ((store_Read.f t103).bind fun bt111 => (if 10 ≤ (t103.length : Int) then ((store_Read.f (t103.take 10)).bind fun bt120 => ((store_Read.f (([0, 0, 0, 0, 28, 223, 68, 33] : List Int))).bind fun bt128 => ((store_Sum.f (([49, 50, 51, 52, 53, 54, 55, 56, 57] : List Int))).bind fun t136 => (if t136 = 3421780262 then ((store_Sum.f ([] : List Int)).bind fun t137 => (if t137 = 0 then (if t106 = 0 then (if t110 = 1 then (if 0 < (t103.length : Int) then (if (rd t103 0) = 3 then (if 1 < (t103.length : Int) then (if (rd t103 1) = 0 then (if 4 < (t103.length : Int) then (if (rd t103 4) = 1 then (if 5 < (t103.length : Int) then (if (rd t103 5) = 97 then (if 6 < (t103.length : Int) then (if (rd t103 6) = 98 then ((zigguratref30_Same.f k bt111.1 (([(⟨(⟨#[97]⟩ : ByteArray), (⟨#[98]⟩ : ByteArray)⟩ : S24)] : List (S24)))).bind fun t146 => (if t146 = true then (if bt111.2.1 = 11 then (if bt111.2.2 = 0 then (if bt120.2.1 = 0 then (if bt120.2.2 = 301 then (if bt128.2.2 = 300 then ((store_Repair.f (t103.take 10)).bind fun t151 => (some ((t151.length : Int) == 0))) else (none)) else (none)) else (none)) else (none)) else (none)) else (none))) else (none)) else (none)) else (none)) else (none)) else (none)) else (none)) else (none)) else (none)) else (none)) else (none)) else (none)) else (none)) else (none))) else (none))))) else (none))) else (none)) = some r := H
  have A2 := Aside0.mk A20
  clear A20
  by_cases c3 : (t103.length : Int) = 11
  · rw [if_pos c3] at H
    have c3b0 : ((t103.length : Int) == 11) = true := beq_iff_eq.mpr c3
    have c3b1 : ((t103.length : Int) != 11) = false := bne_eq_false_iff_eq.mpr c3
    clear c3
    replace H := Option.bind_eq_some_iff.mp H
    obtain ⟨⟨t111, t112, t113⟩, A40, H⟩ := H
    replace H : (if 10 ≤ (t103.length : Int) then ((store_Read.f (t103.take 10)).bind fun bt120 => ((store_Read.f (([0, 0, 0, 0, 28, 223, 68, 33] : List Int))).bind fun bt128 => ((store_Sum.f (([49, 50, 51, 52, 53, 54, 55, 56, 57] : List Int))).bind fun t136 => (if t136 = 3421780262 then ((store_Sum.f ([] : List Int)).bind fun t137 => (if t137 = 0 then (if t106 = 0 then (if t110 = 1 then (if 0 < (t103.length : Int) then (if (rd t103 0) = 3 then (if 1 < (t103.length : Int) then (if (rd t103 1) = 0 then (if 4 < (t103.length : Int) then (if (rd t103 4) = 1 then (if 5 < (t103.length : Int) then (if (rd t103 5) = 97 then (if 6 < (t103.length : Int) then (if (rd t103 6) = 98 then ((zigguratref30_Same.f k t111 (([(⟨(⟨#[97]⟩ : ByteArray), (⟨#[98]⟩ : ByteArray)⟩ : S24)] : List (S24)))).bind fun t146 => (if t146 = true then (if t112 = 11 then (if t113 = 0 then (if bt120.2.1 = 0 then (if bt120.2.2 = 301 then (if bt128.2.2 = 300 then ((store_Repair.f (t103.take 10)).bind fun t151 => (some ((t151.length : Int) == 0))) else (none)) else (none)) else (none)) else (none)) else (none)) else (none))) else (none)) else (none)) else (none)) else (none)) else (none)) else (none)) else (none)) else (none)) else (none)) else (none)) else (none)) else (none)) else (none))) else (none))))) else (none)) = some r := H
    have A4 := Aside0.mk A40
    clear A40
    by_cases c5 : 10 ≤ (t103.length : Int)
    · rw [if_pos c5] at H
      have c5b0 := eq_true c5
      have c5b1 : decide (10 ≤ (t103.length : Int)) = true := decide_eq_true c5
      clear c5
      obtain ⟨y116, hy116⟩ : ∃ y_ : List Int, y_ = (t103.take 10) := ⟨_, rfl⟩
      replace H : ((store_Read.f y116).bind fun bt120 => ((store_Read.f (([0, 0, 0, 0, 28, 223, 68, 33] : List Int))).bind fun bt128 => ((store_Sum.f (([49, 50, 51, 52, 53, 54, 55, 56, 57] : List Int))).bind fun t136 => (if t136 = 3421780262 then ((store_Sum.f ([] : List Int)).bind fun t137 => (if t137 = 0 then (if t106 = 0 then (if t110 = 1 then (if 0 < (t103.length : Int) then (if (rd t103 0) = 3 then (if 1 < (t103.length : Int) then (if (rd t103 1) = 0 then (if 4 < (t103.length : Int) then (if (rd t103 4) = 1 then (if 5 < (t103.length : Int) then (if (rd t103 5) = 97 then (if 6 < (t103.length : Int) then (if (rd t103 6) = 98 then ((zigguratref30_Same.f k t111 (([(⟨(⟨#[97]⟩ : ByteArray), (⟨#[98]⟩ : ByteArray)⟩ : S24)] : List (S24)))).bind fun t146 => (if t146 = true then (if t112 = 11 then (if t113 = 0 then (if bt120.2.1 = 0 then (if bt120.2.2 = 301 then (if bt128.2.2 = 300 then ((store_Repair.f (t103.take 10)).bind fun t151 => (some ((t151.length : Int) == 0))) else (none)) else (none)) else (none)) else (none)) else (none)) else (none))) else (none)) else (none)) else (none)) else (none)) else (none)) else (none)) else (none)) else (none)) else (none)) else (none)) else (none)) else (none)) else (none))) else (none))))) = some r := by first | (rw [hy116]; with_reducible exact H) | (have H2_ := (Option.bind_some _ _).symm.trans H; rw [hy116]; with_reducible exact H2_) | (have H2_ := (Option.bind_some _ _).symm.trans H; with_reducible exact H2_) | with_reducible exact H | (rw [hy116]; exact H) | exact H
      have Ny116 := Aside0.mk hy116
      clear hy116
      replace H := Option.bind_eq_some_iff.mp H
      obtain ⟨⟨t120, t121, t122⟩, A60, H⟩ := H
      replace H : ((store_Read.f (([0, 0, 0, 0, 28, 223, 68, 33] : List Int))).bind fun bt128 => ((store_Sum.f (([49, 50, 51, 52, 53, 54, 55, 56, 57] : List Int))).bind fun t136 => (if t136 = 3421780262 then ((store_Sum.f ([] : List Int)).bind fun t137 => (if t137 = 0 then (if t106 = 0 then (if t110 = 1 then (if 0 < (t103.length : Int) then (if (rd t103 0) = 3 then (if 1 < (t103.length : Int) then (if (rd t103 1) = 0 then (if 4 < (t103.length : Int) then (if (rd t103 4) = 1 then (if 5 < (t103.length : Int) then (if (rd t103 5) = 97 then (if 6 < (t103.length : Int) then (if (rd t103 6) = 98 then ((zigguratref30_Same.f k t111 (([(⟨(⟨#[97]⟩ : ByteArray), (⟨#[98]⟩ : ByteArray)⟩ : S24)] : List (S24)))).bind fun t146 => (if t146 = true then (if t112 = 11 then (if t113 = 0 then (if t121 = 0 then (if t122 = 301 then (if bt128.2.2 = 300 then ((store_Repair.f (t103.take 10)).bind fun t151 => (some ((t151.length : Int) == 0))) else (none)) else (none)) else (none)) else (none)) else (none)) else (none))) else (none)) else (none)) else (none)) else (none)) else (none)) else (none)) else (none)) else (none)) else (none)) else (none)) else (none)) else (none)) else (none))) else (none)))) = some r := H
      have A6 := Aside0.mk A60
      clear A60
      obtain ⟨y125, hy125⟩ : ∃ y_ : List Int, y_ = (([0, 0, 0, 0, 28, 223, 68, 33] : List Int)) := ⟨_, rfl⟩
      replace H : ((store_Read.f y125).bind fun bt128 => ((store_Sum.f (([49, 50, 51, 52, 53, 54, 55, 56, 57] : List Int))).bind fun t136 => (if t136 = 3421780262 then ((store_Sum.f ([] : List Int)).bind fun t137 => (if t137 = 0 then (if t106 = 0 then (if t110 = 1 then (if 0 < (t103.length : Int) then (if (rd t103 0) = 3 then (if 1 < (t103.length : Int) then (if (rd t103 1) = 0 then (if 4 < (t103.length : Int) then (if (rd t103 4) = 1 then (if 5 < (t103.length : Int) then (if (rd t103 5) = 97 then (if 6 < (t103.length : Int) then (if (rd t103 6) = 98 then ((zigguratref30_Same.f k t111 (([(⟨(⟨#[97]⟩ : ByteArray), (⟨#[98]⟩ : ByteArray)⟩ : S24)] : List (S24)))).bind fun t146 => (if t146 = true then (if t112 = 11 then (if t113 = 0 then (if t121 = 0 then (if t122 = 301 then (if bt128.2.2 = 300 then ((store_Repair.f (t103.take 10)).bind fun t151 => (some ((t151.length : Int) == 0))) else (none)) else (none)) else (none)) else (none)) else (none)) else (none))) else (none)) else (none)) else (none)) else (none)) else (none)) else (none)) else (none)) else (none)) else (none)) else (none)) else (none)) else (none)) else (none))) else (none)))) = some r := by first | (rw [hy125]; with_reducible exact H) | (have H2_ := (Option.bind_some _ _).symm.trans H; rw [hy125]; with_reducible exact H2_) | (have H2_ := (Option.bind_some _ _).symm.trans H; with_reducible exact H2_) | with_reducible exact H | (rw [hy125]; exact H) | exact H
      have Ny125 := Aside0.mk hy125
      clear hy125
      replace H := Option.bind_eq_some_iff.mp H
      obtain ⟨⟨t128, t129, t130⟩, A70, H⟩ := H
      replace H : ((store_Sum.f (([49, 50, 51, 52, 53, 54, 55, 56, 57] : List Int))).bind fun t136 => (if t136 = 3421780262 then ((store_Sum.f ([] : List Int)).bind fun t137 => (if t137 = 0 then (if t106 = 0 then (if t110 = 1 then (if 0 < (t103.length : Int) then (if (rd t103 0) = 3 then (if 1 < (t103.length : Int) then (if (rd t103 1) = 0 then (if 4 < (t103.length : Int) then (if (rd t103 4) = 1 then (if 5 < (t103.length : Int) then (if (rd t103 5) = 97 then (if 6 < (t103.length : Int) then (if (rd t103 6) = 98 then ((zigguratref30_Same.f k t111 (([(⟨(⟨#[97]⟩ : ByteArray), (⟨#[98]⟩ : ByteArray)⟩ : S24)] : List (S24)))).bind fun t146 => (if t146 = true then (if t112 = 11 then (if t113 = 0 then (if t121 = 0 then (if t122 = 301 then (if t130 = 300 then ((store_Repair.f (t103.take 10)).bind fun t151 => (some ((t151.length : Int) == 0))) else (none)) else (none)) else (none)) else (none)) else (none)) else (none))) else (none)) else (none)) else (none)) else (none)) else (none)) else (none)) else (none)) else (none)) else (none)) else (none)) else (none)) else (none)) else (none))) else (none))) = some r := H
      have A7 := Aside0.mk A70
      clear A70
      obtain ⟨y133, hy133⟩ : ∃ y_ : List Int, y_ = (([49, 50, 51, 52, 53, 54, 55, 56, 57] : List Int)) := ⟨_, rfl⟩
      replace H : ((store_Sum.f y133).bind fun t136 => (if t136 = 3421780262 then ((store_Sum.f ([] : List Int)).bind fun t137 => (if t137 = 0 then (if t106 = 0 then (if t110 = 1 then (if 0 < (t103.length : Int) then (if (rd t103 0) = 3 then (if 1 < (t103.length : Int) then (if (rd t103 1) = 0 then (if 4 < (t103.length : Int) then (if (rd t103 4) = 1 then (if 5 < (t103.length : Int) then (if (rd t103 5) = 97 then (if 6 < (t103.length : Int) then (if (rd t103 6) = 98 then ((zigguratref30_Same.f k t111 (([(⟨(⟨#[97]⟩ : ByteArray), (⟨#[98]⟩ : ByteArray)⟩ : S24)] : List (S24)))).bind fun t146 => (if t146 = true then (if t112 = 11 then (if t113 = 0 then (if t121 = 0 then (if t122 = 301 then (if t130 = 300 then ((store_Repair.f (t103.take 10)).bind fun t151 => (some ((t151.length : Int) == 0))) else (none)) else (none)) else (none)) else (none)) else (none)) else (none))) else (none)) else (none)) else (none)) else (none)) else (none)) else (none)) else (none)) else (none)) else (none)) else (none)) else (none)) else (none)) else (none))) else (none))) = some r := by first | (rw [hy133]; with_reducible exact H) | (have H2_ := (Option.bind_some _ _).symm.trans H; rw [hy133]; with_reducible exact H2_) | (have H2_ := (Option.bind_some _ _).symm.trans H; with_reducible exact H2_) | with_reducible exact H | (rw [hy133]; exact H) | exact H
      have Ny133 := Aside0.mk hy133
      clear hy133
      replace H := Option.bind_eq_some_iff.mp H
      obtain ⟨t136, A80, H⟩ := H
      replace H : (if t136 = 3421780262 then ((store_Sum.f ([] : List Int)).bind fun t137 => (if t137 = 0 then (if t106 = 0 then (if t110 = 1 then (if 0 < (t103.length : Int) then (if (rd t103 0) = 3 then (if 1 < (t103.length : Int) then (if (rd t103 1) = 0 then (if 4 < (t103.length : Int) then (if (rd t103 4) = 1 then (if 5 < (t103.length : Int) then (if (rd t103 5) = 97 then (if 6 < (t103.length : Int) then (if (rd t103 6) = 98 then ((zigguratref30_Same.f k t111 (([(⟨(⟨#[97]⟩ : ByteArray), (⟨#[98]⟩ : ByteArray)⟩ : S24)] : List (S24)))).bind fun t146 => (if t146 = true then (if t112 = 11 then (if t113 = 0 then (if t121 = 0 then (if t122 = 301 then (if t130 = 300 then ((store_Repair.f (t103.take 10)).bind fun t151 => (some ((t151.length : Int) == 0))) else (none)) else (none)) else (none)) else (none)) else (none)) else (none))) else (none)) else (none)) else (none)) else (none)) else (none)) else (none)) else (none)) else (none)) else (none)) else (none)) else (none)) else (none)) else (none))) else (none)) = some r := H
      have A8 := Aside0.mk A80
      clear A80
      by_cases c9 : t136 = 3421780262
      · rw [if_pos c9] at H
        have c9b0 : (t136 == 3421780262) = true := beq_iff_eq.mpr c9
        have c9b1 : (t136 != 3421780262) = false := bne_eq_false_iff_eq.mpr c9
        clear c9
        replace H := Option.bind_eq_some_iff.mp H
        obtain ⟨t137, A100, H⟩ := H
        replace H : (if t137 = 0 then (if t106 = 0 then (if t110 = 1 then (if 0 < (t103.length : Int) then (if (rd t103 0) = 3 then (if 1 < (t103.length : Int) then (if (rd t103 1) = 0 then (if 4 < (t103.length : Int) then (if (rd t103 4) = 1 then (if 5 < (t103.length : Int) then (if (rd t103 5) = 97 then (if 6 < (t103.length : Int) then (if (rd t103 6) = 98 then ((zigguratref30_Same.f k t111 (([(⟨(⟨#[97]⟩ : ByteArray), (⟨#[98]⟩ : ByteArray)⟩ : S24)] : List (S24)))).bind fun t146 => (if t146 = true then (if t112 = 11 then (if t113 = 0 then (if t121 = 0 then (if t122 = 301 then (if t130 = 300 then ((store_Repair.f (t103.take 10)).bind fun t151 => (some ((t151.length : Int) == 0))) else (none)) else (none)) else (none)) else (none)) else (none)) else (none))) else (none)) else (none)) else (none)) else (none)) else (none)) else (none)) else (none)) else (none)) else (none)) else (none)) else (none)) else (none)) else (none)) = some r := H
        have A10 := Aside0.mk A100
        clear A100
        by_cases c11 : t137 = 0
        · rw [if_pos c11] at H
          have c11b0 : (t137 == 0) = true := beq_iff_eq.mpr c11
          have c11b1 : (t137 != 0) = false := bne_eq_false_iff_eq.mpr c11
          clear c11
          by_cases c12 : t106 = 0
          · rw [if_pos c12] at H
            have c12b0 : (t106 == 0) = true := beq_iff_eq.mpr c12
            have c12b1 : (t106 != 0) = false := bne_eq_false_iff_eq.mpr c12
            clear c12
            by_cases c13 : t110 = 1
            · rw [if_pos c13] at H
              have c13b0 : (t110 == 1) = true := beq_iff_eq.mpr c13
              have c13b1 : (t110 != 1) = false := bne_eq_false_iff_eq.mpr c13
              clear c13
              by_cases c14 : 0 < (t103.length : Int)
              · rw [if_pos c14] at H
                have c14b0 : decide (0 < (t103.length : Int)) = true := decide_eq_true c14
                have c14b1 : decide (0 < t103.length) = true := decide_eq_true (by omega)
                clear c14
                by_cases c15 : (rd t103 0) = 3
                · rw [if_pos c15] at H
                  have c15b0 : ((rd t103 0) == 3) = true := beq_iff_eq.mpr c15
                  have c15b1 : ((rd t103 0) != 3) = false := bne_eq_false_iff_eq.mpr c15
                  clear c15
                  by_cases c16 : 1 < (t103.length : Int)
                  · rw [if_pos c16] at H
                    have c16b0 : decide (1 < (t103.length : Int)) = true := decide_eq_true c16
                    have c16b1 : decide (1 < t103.length) = true := decide_eq_true (by omega)
                    clear c16
                    by_cases c17 : (rd t103 1) = 0
                    · rw [if_pos c17] at H
                      have c17b0 : ((rd t103 1) == 0) = true := beq_iff_eq.mpr c17
                      have c17b1 : ((rd t103 1) != 0) = false := bne_eq_false_iff_eq.mpr c17
                      clear c17
                      by_cases c18 : 4 < (t103.length : Int)
                      · rw [if_pos c18] at H
                        have c18b0 : decide (4 < (t103.length : Int)) = true := decide_eq_true c18
                        have c18b1 : decide (4 < t103.length) = true := decide_eq_true (by omega)
                        clear c18
                        by_cases c19 : (rd t103 4) = 1
                        · rw [if_pos c19] at H
                          have c19b0 : ((rd t103 4) == 1) = true := beq_iff_eq.mpr c19
                          have c19b1 : ((rd t103 4) != 1) = false := bne_eq_false_iff_eq.mpr c19
                          clear c19
                          by_cases c20 : 5 < (t103.length : Int)
                          · rw [if_pos c20] at H
                            have c20b0 : decide (5 < (t103.length : Int)) = true := decide_eq_true c20
                            have c20b1 : decide (5 < t103.length) = true := decide_eq_true (by omega)
                            clear c20
                            by_cases c21 : (rd t103 5) = 97
                            · rw [if_pos c21] at H
                              have c21b0 : ((rd t103 5) == 97) = true := beq_iff_eq.mpr c21
                              have c21b1 : ((rd t103 5) != 97) = false := bne_eq_false_iff_eq.mpr c21
                              clear c21
                              by_cases c22 : 6 < (t103.length : Int)
                              · rw [if_pos c22] at H
                                have c22b0 : decide (6 < (t103.length : Int)) = true := decide_eq_true c22
                                have c22b1 : decide (6 < t103.length) = true := decide_eq_true (by omega)
                                clear c22
                                by_cases c23 : (rd t103 6) = 98
                                · rw [if_pos c23] at H
                                  have c23b0 : ((rd t103 6) == 98) = true := beq_iff_eq.mpr c23
                                  have c23b1 : ((rd t103 6) != 98) = false := bne_eq_false_iff_eq.mpr c23
                                  clear c23
                                  obtain ⟨y143, hy143⟩ : ∃ y_ : List (S24), y_ = (([(⟨(⟨#[97]⟩ : ByteArray), (⟨#[98]⟩ : ByteArray)⟩ : S24)] : List (S24))) := ⟨_, rfl⟩
                                  replace H : ((zigguratref30_Same.f k t111 y143).bind fun t146 => (if t146 = true then (if t112 = 11 then (if t113 = 0 then (if t121 = 0 then (if t122 = 301 then (if t130 = 300 then ((store_Repair.f (t103.take 10)).bind fun t151 => (some ((t151.length : Int) == 0))) else (none)) else (none)) else (none)) else (none)) else (none)) else (none))) = some r := by first | (rw [hy143]; with_reducible exact H) | (have H2_ := (Option.bind_some _ _).symm.trans H; rw [hy143]; with_reducible exact H2_) | (have H2_ := (Option.bind_some _ _).symm.trans H; with_reducible exact H2_) | with_reducible exact H | (rw [hy143]; exact H) | exact H
                                  have Ny143 := Aside0.mk hy143
                                  clear hy143
                                  replace H := Option.bind_eq_some_iff.mp H
                                  obtain ⟨t146, A240, H⟩ := H
                                  replace H : (if t146 = true then (if t112 = 11 then (if t113 = 0 then (if t121 = 0 then (if t122 = 301 then (if t130 = 300 then ((store_Repair.f (t103.take 10)).bind fun t151 => (some ((t151.length : Int) == 0))) else (none)) else (none)) else (none)) else (none)) else (none)) else (none)) = some r := H
                                  have A24 := Aside0.mk A240
                                  clear A240
                                  by_cases c25 : t146 = true
                                  · subst c25
                                    have H1 : (if t112 = 11 then (if t113 = 0 then (if t121 = 0 then (if t122 = 301 then (if t130 = 300 then ((store_Repair.f (t103.take 10)).bind fun t151 => (some ((t151.length : Int) == 0))) else (none)) else (none)) else (none)) else (none)) else (none)) = some r := by rw [if_pos rfl] at H; exact H
                                    clear H
                                    have H := H1
                                    clear H1
                                    by_cases c26 : t112 = 11
                                    · rw [if_pos c26] at H
                                      have c26b0 : (t112 == 11) = true := beq_iff_eq.mpr c26
                                      have c26b1 : (t112 != 11) = false := bne_eq_false_iff_eq.mpr c26
                                      clear c26
                                      by_cases c27 : t113 = 0
                                      · rw [if_pos c27] at H
                                        have c27b0 : (t113 == 0) = true := beq_iff_eq.mpr c27
                                        have c27b1 : (t113 != 0) = false := bne_eq_false_iff_eq.mpr c27
                                        clear c27
                                        by_cases c28 : t121 = 0
                                        · rw [if_pos c28] at H
                                          have c28b0 : (t121 == 0) = true := beq_iff_eq.mpr c28
                                          have c28b1 : (t121 != 0) = false := bne_eq_false_iff_eq.mpr c28
                                          clear c28
                                          by_cases c29 : t122 = 301
                                          · rw [if_pos c29] at H
                                            have c29b0 : (t122 == 301) = true := beq_iff_eq.mpr c29
                                            have c29b1 : (t122 != 301) = false := bne_eq_false_iff_eq.mpr c29
                                            clear c29
                                            by_cases c30 : t130 = 300
                                            · rw [if_pos c30] at H
                                              have c30b0 : (t130 == 300) = true := beq_iff_eq.mpr c30
                                              have c30b1 : (t130 != 300) = false := bne_eq_false_iff_eq.mpr c30
                                              clear c30
                                              have c31b0 := eq_true (of_decide_eq_true (by first | (with_reducible assumption) | assumption) : 10 ≤ (t103.length : Int))
                                              obtain ⟨y147, hy147⟩ : ∃ y_ : List Int, y_ = (t103.take 10) := ⟨_, rfl⟩
                                              replace H : ((store_Repair.f y147).bind fun t151 => (some ((t151.length : Int) == 0))) = some r := by first | (rw [hy147]; with_reducible exact H) | (have H2_ := (Option.bind_some _ _).symm.trans H; rw [hy147]; with_reducible exact H2_) | (have H2_ := (Option.bind_some _ _).symm.trans H; with_reducible exact H2_) | with_reducible exact H | (rw [hy147]; exact H) | exact H
                                              have Ny147 := Aside0.mk hy147
                                              clear hy147
                                              replace H := Option.bind_eq_some_iff.mp H
                                              obtain ⟨t151, A320, H⟩ := H
                                              replace H : (some ((t151.length : Int) == 0)) = some r := H
                                              have A32 := Aside0.mk A320
                                              clear A320
                                              obtain rfl := Option.some.inj H
                                              go_enter Tryd.func11, Tryd.ntmps11
                                              (try simp only [List.append])
                                              go_wp2_with (first | ((with_reducible refine gate_callee (f := 12) rfl ?_); refine goesL_ (some 16) rfl rfl Tryd.func12 (by kernel_rfl) rfl #[.slice none (List.length ([] : List Int)) 0, .agg #[.string (⟨#[97]⟩ : ByteArray), .string (⟨#[98]⟩ : ByteArray)]] rfl (by (try simp only [List.map_toArray, List.map_cons, List.map_nil]); first | done | rfl | (simp only [List.length_drop, List.length_take]; rfl)) ?_; (with_reducible refine (store_Append.calls _ _ ([] : List Int) (⟨#[97]⟩ : ByteArray) (⟨#[98]⟩ : ByteArray) t103 t106 _ ?side1 ?side2 A1.out).mono ?_); (case side1 => exact Kd.C_nil _ _); (case side2 => exact Nat.le_refl _); rintro e w33 ⟨v104, rfl, ho0, hb⟩; refine ⟨_, rfl, ?_⟩; have n0_ := Aside0.mk (Kd.R_lower ho0 (below_size (by repeat (first | (with_reducible first | exact HB.out | apply below_alloc | apply pw_below_drewN | apply below_drew1) | exact HB.out)))); have n1_ := Aside0.mk (below_step (by repeat (first | (with_reducible first | exact HB.out | apply below_alloc | apply pw_below_drewN | apply below_drew1) | exact HB.out)) hb); clear HB; have HO105 := n0_; have HB := n1_; clear n0_ n1_; (try clear hb); (try clear hb2); (try clear hk); (try clear hi); (try clear ho0)) | ((with_reducible refine gate_callee (f := 12) rfl ?_); refine goesL_ (some 21) rfl rfl Tryd.func12 (by kernel_rfl) rfl #[.slice none (List.length ([] : List Int)) 0, .agg #[.string (⟨#[]⟩ : ByteArray), .string (⟨#[98]⟩ : ByteArray)]] rfl (by (try simp only [List.map_toArray, List.map_cons, List.map_nil]); first | done | rfl | (simp only [List.length_drop, List.length_take]; rfl)) ?_; (with_reducible refine (store_Append.calls _ _ ([] : List Int) (⟨#[]⟩ : ByteArray) (⟨#[98]⟩ : ByteArray) t107 t110 _ ?side1 ?side2 A2.out).mono ?_); (case side1 => exact Kd.C_nil _ _); (case side2 => exact Nat.le_refl _); rintro e w34 ⟨v108, rfl, ho0, hb⟩; refine ⟨_, rfl, ?_⟩; have n0_ := Aside0.mk (Kd.R_elder' (by (with_reducible repeat (first | apply Kd.R_alloc | apply Kd.R_drewN | apply Kd.R_drew)); exact HO105.out) (Kd.R_base ho0) hb); have n1_ := Aside0.mk (Kd.R_lower (Kd.R_new' ho0 (Kd.R_lt (by (with_reducible repeat (first | apply Kd.R_alloc | apply Kd.R_drewN | apply Kd.R_drew)); exact HO105.out))) (below_size (by repeat (first | (with_reducible first | exact HB.out | apply below_alloc | apply pw_below_drewN | apply below_drew1) | exact HB.out)))); have n2_ := Aside0.mk (below_step (by repeat (first | (with_reducible first | exact HB.out | apply below_alloc | apply pw_below_drewN | apply below_drew1) | exact HB.out)) hb); clear HO105; clear HB; have HO105 := n0_; have HO109 := n1_; have HB := n2_; clear n0_ n1_ n2_; (try clear hb); (try clear hb2); (try clear hk); (try clear hi); (try clear ho0); obtain ⟨Ao35, co35, eo35⟩ := Kd.R_slice HO105.out; subst eo35) | ((with_reducible refine gate_callee (f := 14) rfl ?_); refine goesL_ (some 29) rfl rfl Tryd.func14 (by kernel_rfl) rfl #[.slice Ao35 t103.length co35] rfl (by (try simp only [List.map_toArray, List.map_cons, List.map_nil]); first | done | rfl | (simp only [List.length_drop, List.length_take]; rfl)) ?_; (with_reducible refine (store_Read.calls _ _ t103 t111 t112 t113 _ ?side0 ?side1 ?side2 A4.out).mono ?_); (case side0 => exact GOK.below HG.out (by repeat (first | (with_reducible first | exact HB.out | apply below_alloc | apply pw_below_drewN | apply below_drew1) | exact HB.out))); (case side1 => repeat (first | exact (Kd.R_reads' HO105.out).2.2 | (with_reducible refine Kd.C_alloc ?_ _) | (with_reducible refine Kd.C_drewN ?_ _) | (with_reducible refine Kd.C_drew ?_))); (case side2 => exact (Kd.R_reads' HO105.out).2.1); rintro e w36 ⟨v114, rfl, ho0, hb⟩; refine ⟨_, rfl, ?_⟩; have n0_ := Aside0.mk (Kd.R_below (by (with_reducible repeat (first | apply Kd.R_alloc | apply Kd.R_drewN | apply Kd.R_drew)); exact HO105.out) hb); have n1_ := Aside0.mk (Kd.R_below (by (with_reducible repeat (first | apply Kd.R_alloc | apply Kd.R_drewN | apply Kd.R_drew)); exact HO109.out) hb); have n2_ := Aside0.mk (Kd.R_lower ho0 (below_size (by repeat (first | (with_reducible first | exact HB.out | apply below_alloc | apply pw_below_drewN | apply below_drew1) | exact HB.out)))); have n3_ := Aside0.mk (below_step (by repeat (first | (with_reducible first | exact HB.out | apply below_alloc | apply pw_below_drewN | apply below_drew1) | exact HB.out)) hb); clear HO105; clear HO109; clear HB; have HO105 := n0_; have HO109 := n1_; have HO115 := n2_; have HB := n3_; clear n0_ n1_ n2_ n3_; (try clear hb); (try clear hb2); (try clear hk); (try clear hi); (try clear ho0); have q37 : (10 : Int) ≤ ((t103.length : Int) : Int) := of_decide_eq_true (by first | (with_reducible assumption) | assumption); obtain ⟨i037, hi037, _, hsz37, _⟩ := info_parts info5; have hroom37 : t103.length ≤ co35 := (Kd.R_reads' HO105.out).2.1; have hC37 : Kd.C (Kd.int .u8) _ Ao35 t103.length t103 := (Kd.R_reads' HO105.out).2.2; have hcut37 := cut_to (P := Tryd.prog) 22 5 .i64 Tryd.underlying22 hi037 Ao35 t103.length co35 10 (by omega) q37 hroom37; have hr37 := Kd.C_take (m := 10) hC37 (by omega); have hy37 : y116.length = (10 : Int).toNat := (by rw [Ny116.out, List.length_take]; omega); rw [← Ny116.out] at hr37; rw [← hy37] at hcut37; have HR119 := Aside0.mk hr37; have HC119 := Aside0.mk (show y116.length ≤ co35 from by omega); clear hr37 hC37 hroom37 hi037 hsz37; have KY37 := Aside0.mk hy37; clear hy37; have KL37 := Aside0.mk (show 10 ≤ t103.length from by omega); replace q37 := eq_true q37) | ((with_reducible refine gate_callee (f := 14) rfl ?_); refine goesL_ (some 36) rfl rfl Tryd.func14 (by kernel_rfl) rfl #[.slice Ao35 y116.length co35] rfl (by (try simp only [List.map_toArray, List.map_cons, List.map_nil]); first | done | rfl | (simp only [List.length_drop, List.length_take]; rfl)) ?_; (with_reducible refine (store_Read.calls _ _ y116 t120 t121 t122 _ ?side0 ?side1 ?side2 A6.out).mono ?_); (case side0 => exact GOK.below HG.out (by repeat (first | (with_reducible first | exact HB.out | apply below_alloc | apply pw_below_drewN | apply below_drew1) | exact HB.out))); (case side1 => repeat (first | exact (by first | (with_reducible exact HR119.out) | (with_reducible exact Kd.C_drewN HR119.out _) | (with_reducible exact Kd.C_drew HR119.out) | (with_reducible exact Kd.C_alloc HR119.out _) | repeat (first | (with_reducible exact HR119.out) | (with_reducible refine Kd.C_alloc ?_ _) | (with_reducible refine Kd.C_drewN ?_ _) | (with_reducible refine Kd.C_drew ?_) | exact HR119.out)) | (with_reducible refine Kd.C_alloc ?_ _) | (with_reducible refine Kd.C_drewN ?_ _) | (with_reducible refine Kd.C_drew ?_))); (case side2 => exact HC119.out); rintro e w38 ⟨v123, rfl, ho0, hb⟩; refine ⟨_, rfl, ?_⟩; have n0_ := Aside0.mk (Kd.R_below (by (with_reducible repeat (first | apply Kd.R_alloc | apply Kd.R_drewN | apply Kd.R_drew)); exact HO105.out) hb); have n1_ := Aside0.mk (Kd.R_below (by (with_reducible repeat (first | apply Kd.R_alloc | apply Kd.R_drewN | apply Kd.R_drew)); exact HO109.out) hb); have n2_ := Aside0.mk (Kd.R_elder' (by (with_reducible repeat (first | apply Kd.R_alloc | apply Kd.R_drewN | apply Kd.R_drew)); exact HO115.out) (Kd.R_base ho0) hb); have n3_ := Aside0.mk (Kd.R_lower (Kd.R_new' ho0 (Kd.R_lt (by (with_reducible repeat (first | apply Kd.R_alloc | apply Kd.R_drewN | apply Kd.R_drew)); exact HO115.out))) (below_size (by repeat (first | (with_reducible first | exact HB.out | apply below_alloc | apply pw_below_drewN | apply below_drew1) | exact HB.out)))); have n4_ := Aside0.mk (Kd.C_below (by first | (with_reducible exact HR119.out) | (with_reducible exact Kd.C_drewN HR119.out _) | (with_reducible exact Kd.C_drew HR119.out) | (with_reducible exact Kd.C_alloc HR119.out _) | repeat (first | (with_reducible exact HR119.out) | (with_reducible refine Kd.C_alloc ?_ _) | (with_reducible refine Kd.C_drewN ?_ _) | (with_reducible refine Kd.C_drew ?_) | exact HR119.out)) hb); have n5_ := Aside0.mk (below_step (by repeat (first | (with_reducible first | exact HB.out | apply below_alloc | apply pw_below_drewN | apply below_drew1) | exact HB.out)) hb); clear HO105; clear HO109; clear HO115; clear HR119; clear HB; have HO105 := n0_; have HO109 := n1_; have HO115 := n2_; have HO124 := n3_; have HR119 := n4_; have HB := n5_; clear n0_ n1_ n2_ n3_ n4_ n5_; (try clear hb); (try clear hb2); (try clear hk); (try clear hi); (try clear ho0)) | ((with_reducible refine gate_dst (N := 41) rfl ?_); (try (refine gate_guard (by rfl) ?_; dsimp only)); refine Kd.R_lit (Kd.int .u8) _ 5 ?hg (N := 41) ?hd (xs := ([0, 0, 0, 0, 28, 223, 68, 33] : List Int)) (inner := [.int .u8 0, .int .u8 0, .int .u8 0, .int .u8 0, .int .u8 28, .int .u8 223, .int .u8 68, .int .u8 33]) (ok := fun _ => True) (okp := fun _ => True) ?hr ?hp (fun _ hk => hk) trivial (Below.refl _ _) (Nat.le_refl _) (by simp) ?_; (case hd => rfl); (case hg => rfl); (case hr => first | (go_simp; done) | (go_simp; rfl)); (case hp => exact (Reps.one (show Kd.M (Kd.int .u8) _ _ _ 0 [.int .u8 0] from rfl) (Reps.one (show Kd.M (Kd.int .u8) _ _ _ 0 [.int .u8 0] from rfl) (Reps.one (show Kd.M (Kd.int .u8) _ _ _ 0 [.int .u8 0] from rfl) (Reps.one (show Kd.M (Kd.int .u8) _ _ _ 0 [.int .u8 0] from rfl) (Reps.one (show Kd.M (Kd.int .u8) _ _ _ 28 [.int .u8 28] from rfl) (Reps.one (show Kd.M (Kd.int .u8) _ _ _ 223 [.int .u8 223] from rfl) (Reps.one (show Kd.M (Kd.int .u8) _ _ _ 68 [.int .u8 68] from rfl) (Reps.one (show Kd.M (Kd.int .u8) _ _ _ 33 [.int .u8 33] from rfl) (Reps.none _ _)))))))))); intro v126 w39 ho40 hb hg_ hnew_; clear hg_ hnew_; (first | rw [← Ny125.out] at ho40 | (simp only [Int.reduceToNat] at ho40; rw [← Ny125.out] at ho40)); have n0_ := Aside0.mk (Kd.R_elder' (by (with_reducible repeat (first | apply Kd.R_alloc | apply Kd.R_drewN | apply Kd.R_drew)); exact HO105.out) (Kd.R_base ho40) hb); have n1_ := Aside0.mk (Kd.R_elder' (by (with_reducible repeat (first | apply Kd.R_alloc | apply Kd.R_drewN | apply Kd.R_drew)); exact HO109.out) (Kd.R_base ho40) hb); have n2_ := Aside0.mk (Kd.R_below (by (with_reducible repeat (first | apply Kd.R_alloc | apply Kd.R_drewN | apply Kd.R_drew)); exact HO115.out) hb); have n3_ := Aside0.mk (Kd.R_below (by (with_reducible repeat (first | apply Kd.R_alloc | apply Kd.R_drewN | apply Kd.R_drew)); exact HO124.out) hb); have n4_ := Aside0.mk (Kd.R_lower (Kd.R_new' (Kd.R_new' ho40 (Kd.R_lt (by (with_reducible repeat (first | apply Kd.R_alloc | apply Kd.R_drewN | apply Kd.R_drew)); exact HO105.out))) (Kd.R_lt (by (with_reducible repeat (first | apply Kd.R_alloc | apply Kd.R_drewN | apply Kd.R_drew)); exact HO109.out))) (below_size (by repeat (first | (with_reducible first | exact HB.out | apply below_alloc | apply pw_below_drewN | apply below_drew1) | exact HB.out)))); have n5_ := Aside0.mk (Kd.C_below (by first | (with_reducible exact HR119.out) | (with_reducible exact Kd.C_drewN HR119.out _) | (with_reducible exact Kd.C_drew HR119.out) | (with_reducible exact Kd.C_alloc HR119.out _) | repeat (first | (with_reducible exact HR119.out) | (with_reducible refine Kd.C_alloc ?_ _) | (with_reducible refine Kd.C_drewN ?_ _) | (with_reducible refine Kd.C_drew ?_) | exact HR119.out)) hb); have n6_ := Aside0.mk (below_step (by repeat (first | (with_reducible first | exact HB.out | apply below_alloc | apply pw_below_drewN | apply below_drew1) | exact HB.out)) hb); clear HO105; clear HO109; clear HO115; clear HO124; clear HR119; clear HB; have HO105 := n0_; have HO109 := n1_; have HO115 := n2_; have HO124 := n3_; have HO127 := n4_; have HR119 := n5_; have HB := n6_; clear n0_ n1_ n2_ n3_ n4_ n5_ n6_; clear hb ho40; obtain ⟨Ao41, co41, eo41⟩ := Kd.R_slice HO127.out; subst eo41) | ((with_reducible refine gate_callee (f := 14) rfl ?_); refine goesL_ (some 42) rfl rfl Tryd.func14 (by kernel_rfl) rfl #[.slice Ao41 y125.length co41] rfl (by (try simp only [List.map_toArray, List.map_cons, List.map_nil]); first | done | rfl | (simp only [List.length_drop, List.length_take]; rfl)) ?_; (with_reducible refine (store_Read.calls _ _ y125 t128 t129 t130 _ ?side0 ?side1 ?side2 A7.out).mono ?_); (case side0 => exact GOK.below HG.out (by repeat (first | (with_reducible first | exact HB.out | apply below_alloc | apply pw_below_drewN | apply below_drew1) | exact HB.out))); (case side1 => repeat (first | exact (Kd.R_reads' HO127.out).2.2 | (with_reducible refine Kd.C_alloc ?_ _) | (with_reducible refine Kd.C_drewN ?_ _) | (with_reducible refine Kd.C_drew ?_))); (case side2 => exact (Kd.R_reads' HO127.out).2.1); rintro e w42 ⟨v131, rfl, ho0, hb⟩; refine ⟨_, rfl, ?_⟩; have n0_ := Aside0.mk (Kd.R_below (by (with_reducible repeat (first | apply Kd.R_alloc | apply Kd.R_drewN | apply Kd.R_drew)); exact HO105.out) hb); have n1_ := Aside0.mk (Kd.R_below (by (with_reducible repeat (first | apply Kd.R_alloc | apply Kd.R_drewN | apply Kd.R_drew)); exact HO109.out) hb); have n2_ := Aside0.mk (Kd.R_elder' (by (with_reducible repeat (first | apply Kd.R_alloc | apply Kd.R_drewN | apply Kd.R_drew)); exact HO115.out) (Kd.R_base ho0) hb); have n3_ := Aside0.mk (Kd.R_elder' (by (with_reducible repeat (first | apply Kd.R_alloc | apply Kd.R_drewN | apply Kd.R_drew)); exact HO124.out) (Kd.R_base ho0) hb); have n4_ := Aside0.mk (Kd.R_below (by (with_reducible repeat (first | apply Kd.R_alloc | apply Kd.R_drewN | apply Kd.R_drew)); exact HO127.out) hb); have n5_ := Aside0.mk (Kd.R_lower (Kd.R_new' (Kd.R_new' ho0 (Kd.R_lt (by (with_reducible repeat (first | apply Kd.R_alloc | apply Kd.R_drewN | apply Kd.R_drew)); exact HO115.out))) (Kd.R_lt (by (with_reducible repeat (first | apply Kd.R_alloc | apply Kd.R_drewN | apply Kd.R_drew)); exact HO124.out))) (below_size (by repeat (first | (with_reducible first | exact HB.out | apply below_alloc | apply pw_below_drewN | apply below_drew1) | exact HB.out)))); have n6_ := Aside0.mk (Kd.C_below (by first | (with_reducible exact HR119.out) | (with_reducible exact Kd.C_drewN HR119.out _) | (with_reducible exact Kd.C_drew HR119.out) | (with_reducible exact Kd.C_alloc HR119.out _) | repeat (first | (with_reducible exact HR119.out) | (with_reducible refine Kd.C_alloc ?_ _) | (with_reducible refine Kd.C_drewN ?_ _) | (with_reducible refine Kd.C_drew ?_) | exact HR119.out)) hb); have n7_ := Aside0.mk (below_step (by repeat (first | (with_reducible first | exact HB.out | apply below_alloc | apply pw_below_drewN | apply below_drew1) | exact HB.out)) hb); clear HO105; clear HO109; clear HO115; clear HO124; clear HO127; clear HR119; clear HB; have HO105 := n0_; have HO109 := n1_; have HO115 := n2_; have HO124 := n3_; have HO127 := n4_; have HO132 := n5_; have HR119 := n6_; have HB := n7_; clear n0_ n1_ n2_ n3_ n4_ n5_ n6_ n7_; (try clear hb); (try clear hb2); (try clear hk); (try clear hi); (try clear ho0)) | ((with_reducible refine gate_dst (N := 46) rfl ?_); (try (refine gate_guard (by rfl) ?_; dsimp only)); refine lit_conv (by rfl) (by rfl) y133 (C := #[.int .u8 49, .int .u8 50, .int .u8 51, .int .u8 52, .int .u8 53, .int .u8 54, .int .u8 55, .int .u8 56, .int .u8 57]) ?hC ?hl ?hrun ?hop Tryd.underlying22 Tryd.underlying5 ?_; (case hC => (rw [Ny133.out]; rfl)); (case hl => (rw [Ny133.out]; decide)); (case hrun => rw [Ny133.out]; first | (go_simp; done) | (go_simp; rfl)); (case hop => (intro v W1 W2 hv; first | (go_simp; done) | (go_simp; rfl))); intro Ao45 w43 hc45 hb; have n0_ := Aside0.mk (Kd.R_below (by (with_reducible repeat (first | apply Kd.R_alloc | apply Kd.R_drewN | apply Kd.R_drew)); exact HO105.out) hb); have n1_ := Aside0.mk (Kd.R_below (by (with_reducible repeat (first | apply Kd.R_alloc | apply Kd.R_drewN | apply Kd.R_drew)); exact HO109.out) hb); have n2_ := Aside0.mk (Kd.R_below (by (with_reducible repeat (first | apply Kd.R_alloc | apply Kd.R_drewN | apply Kd.R_drew)); exact HO115.out) hb); have n3_ := Aside0.mk (Kd.R_below (by (with_reducible repeat (first | apply Kd.R_alloc | apply Kd.R_drewN | apply Kd.R_drew)); exact HO124.out) hb); have n4_ := Aside0.mk (Kd.R_below (by (with_reducible repeat (first | apply Kd.R_alloc | apply Kd.R_drewN | apply Kd.R_drew)); exact HO127.out) hb); have n5_ := Aside0.mk (Kd.R_below (by (with_reducible repeat (first | apply Kd.R_alloc | apply Kd.R_drewN | apply Kd.R_drew)); exact HO132.out) hb); have n6_ := Aside0.mk hc45; have n7_ := Aside0.mk (Kd.C_below (by first | (with_reducible exact HR119.out) | (with_reducible exact Kd.C_drewN HR119.out _) | (with_reducible exact Kd.C_drew HR119.out) | (with_reducible exact Kd.C_alloc HR119.out _) | repeat (first | (with_reducible exact HR119.out) | (with_reducible refine Kd.C_alloc ?_ _) | (with_reducible refine Kd.C_drewN ?_ _) | (with_reducible refine Kd.C_drew ?_) | exact HR119.out)) hb); have n8_ := Aside0.mk (below_step (by repeat (first | (with_reducible first | exact HB.out | apply below_alloc | apply pw_below_drewN | apply below_drew1) | exact HB.out)) hb); clear HO105; clear HO109; clear HO115; clear HO124; clear HO127; clear HO132; clear HR119; clear HB; have HO105 := n0_; have HO109 := n1_; have HO115 := n2_; have HO124 := n3_; have HO127 := n4_; have HO132 := n5_; have HO135 := n6_; have HR119 := n7_; have HB := n8_; clear n0_ n1_ n2_ n3_ n4_ n5_ n6_ n7_ n8_; clear hb hc45) | ((with_reducible refine gate_callee (f := 17) rfl ?_); refine goesL_ (some 48) rfl rfl Tryd.func17 (by kernel_rfl) rfl #[.slice Ao45 y133.length y133.length] rfl (by (try simp only [List.map_toArray, List.map_cons, List.map_nil]); first | done | rfl | (simp only [List.length_drop, List.length_take]; rfl)) ?_; (with_reducible refine (store_Sum.calls _ _ y133 t136 _ ?side1 ?side2 A8.out).mono ?_); (case side1 => repeat (first | exact (by first | (with_reducible exact HO135.out) | (with_reducible exact Kd.C_drewN HO135.out _) | (with_reducible exact Kd.C_drew HO135.out) | (with_reducible exact Kd.C_alloc HO135.out _) | repeat (first | (with_reducible exact HO135.out) | (with_reducible refine Kd.C_alloc ?_ _) | (with_reducible refine Kd.C_drewN ?_ _) | (with_reducible refine Kd.C_drew ?_) | exact HO135.out)) | (with_reducible refine Kd.C_alloc ?_ _) | (with_reducible refine Kd.C_drewN ?_ _) | (with_reducible refine Kd.C_drew ?_))); (case side2 => exact Nat.le_refl _); rintro e w46 ⟨rfl, hb⟩; refine ⟨_, rfl, ?_⟩; have n0_ := Aside0.mk (Kd.R_below (by (with_reducible repeat (first | apply Kd.R_alloc | apply Kd.R_drewN | apply Kd.R_drew)); exact HO105.out) hb); have n1_ := Aside0.mk (Kd.R_below (by (with_reducible repeat (first | apply Kd.R_alloc | apply Kd.R_drewN | apply Kd.R_drew)); exact HO109.out) hb); have n2_ := Aside0.mk (Kd.R_below (by (with_reducible repeat (first | apply Kd.R_alloc | apply Kd.R_drewN | apply Kd.R_drew)); exact HO115.out) hb); have n3_ := Aside0.mk (Kd.R_below (by (with_reducible repeat (first | apply Kd.R_alloc | apply Kd.R_drewN | apply Kd.R_drew)); exact HO124.out) hb); have n4_ := Aside0.mk (Kd.R_below (by (with_reducible repeat (first | apply Kd.R_alloc | apply Kd.R_drewN | apply Kd.R_drew)); exact HO127.out) hb); have n5_ := Aside0.mk (Kd.R_below (by (with_reducible repeat (first | apply Kd.R_alloc | apply Kd.R_drewN | apply Kd.R_drew)); exact HO132.out) hb); have n6_ := Aside0.mk (Kd.C_below (by first | (with_reducible exact HO135.out) | (with_reducible exact Kd.C_drewN HO135.out _) | (with_reducible exact Kd.C_drew HO135.out) | (with_reducible exact Kd.C_alloc HO135.out _) | repeat (first | (with_reducible exact HO135.out) | (with_reducible refine Kd.C_alloc ?_ _) | (with_reducible refine Kd.C_drewN ?_ _) | (with_reducible refine Kd.C_drew ?_) | exact HO135.out)) hb); have n7_ := Aside0.mk (Kd.C_below (by first | (with_reducible exact HR119.out) | (with_reducible exact Kd.C_drewN HR119.out _) | (with_reducible exact Kd.C_drew HR119.out) | (with_reducible exact Kd.C_alloc HR119.out _) | repeat (first | (with_reducible exact HR119.out) | (with_reducible refine Kd.C_alloc ?_ _) | (with_reducible refine Kd.C_drewN ?_ _) | (with_reducible refine Kd.C_drew ?_) | exact HR119.out)) hb); have n8_ := Aside0.mk (below_step (by repeat (first | (with_reducible first | exact HB.out | apply below_alloc | apply pw_below_drewN | apply below_drew1) | exact HB.out)) hb); clear HO105; clear HO109; clear HO115; clear HO124; clear HO127; clear HO132; clear HO135; clear HR119; clear HB; have HO105 := n0_; have HO109 := n1_; have HO115 := n2_; have HO124 := n3_; have HO127 := n4_; have HO132 := n5_; have HO135 := n6_; have HR119 := n7_; have HB := n8_; clear n0_ n1_ n2_ n3_ n4_ n5_ n6_ n7_ n8_; (try clear hb); (try clear hb2); (try clear hk); (try clear hi)) | (go_at_call 17; refine calls_of_args (args' := #[.slice none (List.length ([] : List Int)) 0]) (by first | rfl) ?_; (with_reducible refine (store_Sum.calls _ _ ([] : List Int) t137 _ ?side1 ?side2 A10.out).mono ?_); (case side1 => exact Kd.C_nil _ _); (case side2 => exact Nat.le_refl _); rintro e w47 ⟨rfl, hb⟩; have n0_ := Aside0.mk (Kd.R_below (by (with_reducible repeat (first | apply Kd.R_alloc | apply Kd.R_drewN | apply Kd.R_drew)); exact HO105.out) hb); have n1_ := Aside0.mk (Kd.R_below (by (with_reducible repeat (first | apply Kd.R_alloc | apply Kd.R_drewN | apply Kd.R_drew)); exact HO109.out) hb); have n2_ := Aside0.mk (Kd.R_below (by (with_reducible repeat (first | apply Kd.R_alloc | apply Kd.R_drewN | apply Kd.R_drew)); exact HO115.out) hb); have n3_ := Aside0.mk (Kd.R_below (by (with_reducible repeat (first | apply Kd.R_alloc | apply Kd.R_drewN | apply Kd.R_drew)); exact HO124.out) hb); have n4_ := Aside0.mk (Kd.R_below (by (with_reducible repeat (first | apply Kd.R_alloc | apply Kd.R_drewN | apply Kd.R_drew)); exact HO127.out) hb); have n5_ := Aside0.mk (Kd.R_below (by (with_reducible repeat (first | apply Kd.R_alloc | apply Kd.R_drewN | apply Kd.R_drew)); exact HO132.out) hb); have n6_ := Aside0.mk (Kd.C_below (by first | (with_reducible exact HO135.out) | (with_reducible exact Kd.C_drewN HO135.out _) | (with_reducible exact Kd.C_drew HO135.out) | (with_reducible exact Kd.C_alloc HO135.out _) | repeat (first | (with_reducible exact HO135.out) | (with_reducible refine Kd.C_alloc ?_ _) | (with_reducible refine Kd.C_drewN ?_ _) | (with_reducible refine Kd.C_drew ?_) | exact HO135.out)) hb); have n7_ := Aside0.mk (Kd.C_below (by first | (with_reducible exact HR119.out) | (with_reducible exact Kd.C_drewN HR119.out _) | (with_reducible exact Kd.C_drew HR119.out) | (with_reducible exact Kd.C_alloc HR119.out _) | repeat (first | (with_reducible exact HR119.out) | (with_reducible refine Kd.C_alloc ?_ _) | (with_reducible refine Kd.C_drewN ?_ _) | (with_reducible refine Kd.C_drew ?_) | exact HR119.out)) hb); have n8_ := Aside0.mk (below_step (by repeat (first | (with_reducible first | exact HB.out | apply below_alloc | apply pw_below_drewN | apply below_drew1) | exact HB.out)) hb); clear HO105; clear HO109; clear HO115; clear HO124; clear HO127; clear HO132; clear HO135; clear HR119; clear HB; have HO105 := n0_; have HO109 := n1_; have HO115 := n2_; have HO124 := n3_; have HO127 := n4_; have HO132 := n5_; have HO135 := n6_; have HR119 := n7_; have HB := n8_; clear n0_ n1_ n2_ n3_ n4_ n5_ n6_ n7_ n8_; (try clear hb); (try clear hb2); (try clear hk); (try clear hi); have p138 : 0 ≤ (0 : Int) := (by omega); have q138 : 0 < (t103.length : Int) := of_decide_eq_true (by first | (with_reducible assumption) | assumption); obtain ⟨ad138, e138, hx138_0⟩ := Kd.at_int (Kd.R_reads' HO105.out).2.2 0 p138 q138; cases e138; have qi138 : (0 < t103.length) = True := eq_true (by omega); (try rw [show ((0 : Int)).toNat = 0 from rfl] at hx138_0); (try rw [Addr.add_zero'] at hx138_0); replace p138 := eq_true p138; replace q138 := eq_true q138; have p139 : 0 ≤ (1 : Int) := (by omega); have q139 : 1 < (t103.length : Int) := of_decide_eq_true (by first | (with_reducible assumption) | assumption); obtain ⟨ad139, e139, hx139_0⟩ := Kd.at_int (Kd.R_reads' HO105.out).2.2 1 p139 q139; obtain rfl : ad138 = ad139 := (by injection e139); (try simp only [show (1 : Int).toNat = 1 from rfl, Nat.reduceMul, Nat.reduceEqDiff, Go.Addr.add, ↓reduceIte] at hx139_0); have qi139 : (1 < t103.length) = True := eq_true (by omega); (try rw [show ((1 : Int)).toNat = 1 from rfl] at hx139_0); replace p139 := eq_true p139; replace q139 := eq_true q139; have p140 : 0 ≤ (4 : Int) := (by omega); have q140 : 4 < (t103.length : Int) := of_decide_eq_true (by first | (with_reducible assumption) | assumption); obtain ⟨ad140, e140, hx140_0⟩ := Kd.at_int (Kd.R_reads' HO105.out).2.2 4 p140 q140; obtain rfl : ad138 = ad140 := (by injection e140); (try simp only [show (4 : Int).toNat = 4 from rfl, Nat.reduceMul, Nat.reduceEqDiff, Go.Addr.add, ↓reduceIte] at hx140_0); have qi140 : (4 < t103.length) = True := eq_true (by omega); (try rw [show ((4 : Int)).toNat = 4 from rfl] at hx140_0); replace p140 := eq_true p140; replace q140 := eq_true q140; have p141 : 0 ≤ (5 : Int) := (by omega); have q141 : 5 < (t103.length : Int) := of_decide_eq_true (by first | (with_reducible assumption) | assumption); obtain ⟨ad141, e141, hx141_0⟩ := Kd.at_int (Kd.R_reads' HO105.out).2.2 5 p141 q141; obtain rfl : ad138 = ad141 := (by injection e141); (try simp only [show (5 : Int).toNat = 5 from rfl, Nat.reduceMul, Nat.reduceEqDiff, Go.Addr.add, ↓reduceIte] at hx141_0); have qi141 : (5 < t103.length) = True := eq_true (by omega); (try rw [show ((5 : Int)).toNat = 5 from rfl] at hx141_0); replace p141 := eq_true p141; replace q141 := eq_true q141; have p142 : 0 ≤ (6 : Int) := (by omega); have q142 : 6 < (t103.length : Int) := of_decide_eq_true (by first | (with_reducible assumption) | assumption); obtain ⟨ad142, e142, hx142_0⟩ := Kd.at_int (Kd.R_reads' HO105.out).2.2 6 p142 q142; obtain rfl : ad138 = ad142 := (by injection e142); (try simp only [show (6 : Int).toNat = 6 from rfl, Nat.reduceMul, Nat.reduceEqDiff, Go.Addr.add, ↓reduceIte] at hx142_0); have qi142 : (6 < t103.length) = True := eq_true (by omega); (try rw [show ((6 : Int)).toNat = 6 from rfl] at hx142_0); replace p142 := eq_true p142; replace q142 := eq_true q142) | ((with_reducible refine gate_dst (N := 95) rfl ?_); (try (refine gate_guard (by rfl) ?_; dsimp only)); refine Kd.R_lit k24 _ 24 ?hg (N := 95) ?hd (xs := ([(⟨(⟨#[97]⟩ : ByteArray), (⟨#[98]⟩ : ByteArray)⟩ : S24)] : List (S24))) (inner := [.string (⟨#[97]⟩ : ByteArray), .string (⟨#[98]⟩ : ByteArray)]) (ok := fun _ => True) (okp := fun _ => True) ?hr ?hp (fun _ hk => hk) trivial (Below.refl _ _) (Nat.le_refl _) (by simp) ?_; (case hd => rfl); (case hg => rfl); (case hr => first | (go_simp; done) | (go_simp; rfl)); (case hp => exact (Reps.c2 (show Kd.M k24 _ _ _ (⟨(⟨#[97]⟩ : ByteArray), (⟨#[98]⟩ : ByteArray)⟩ : S24) [.string (⟨#[97]⟩ : ByteArray), .string (⟨#[98]⟩ : ByteArray)] from (k24_mkM _ _ _ (⟨(⟨#[97]⟩ : ByteArray), (⟨#[98]⟩ : ByteArray)⟩ : S24) )) (Reps.none _ _))); intro v144 w48 ho49 hb hg_ hnew_; clear hg_ hnew_; (first | rw [← Ny143.out] at ho49 | (simp only [Int.reduceToNat] at ho49; rw [← Ny143.out] at ho49)); have n0_ := Aside0.mk (Kd.R_below (by (with_reducible repeat (first | apply Kd.R_alloc | apply Kd.R_drewN | apply Kd.R_drew)); exact HO105.out) hb); have n1_ := Aside0.mk (Kd.R_below (by (with_reducible repeat (first | apply Kd.R_alloc | apply Kd.R_drewN | apply Kd.R_drew)); exact HO109.out) hb); have n2_ := Aside0.mk (Kd.R_elder' (by (with_reducible repeat (first | apply Kd.R_alloc | apply Kd.R_drewN | apply Kd.R_drew)); exact HO115.out) (Kd.R_base ho49) hb); have n3_ := Aside0.mk (Kd.R_elder' (by (with_reducible repeat (first | apply Kd.R_alloc | apply Kd.R_drewN | apply Kd.R_drew)); exact HO124.out) (Kd.R_base ho49) hb); have n4_ := Aside0.mk (Kd.R_below (by (with_reducible repeat (first | apply Kd.R_alloc | apply Kd.R_drewN | apply Kd.R_drew)); exact HO127.out) hb); have n5_ := Aside0.mk (Kd.R_elder' (by (with_reducible repeat (first | apply Kd.R_alloc | apply Kd.R_drewN | apply Kd.R_drew)); exact HO132.out) (Kd.R_base ho49) hb); have n6_ := Aside0.mk (Kd.C_below (by first | (with_reducible exact HO135.out) | (with_reducible exact Kd.C_drewN HO135.out _) | (with_reducible exact Kd.C_drew HO135.out) | (with_reducible exact Kd.C_alloc HO135.out _) | repeat (first | (with_reducible exact HO135.out) | (with_reducible refine Kd.C_alloc ?_ _) | (with_reducible refine Kd.C_drewN ?_ _) | (with_reducible refine Kd.C_drew ?_) | exact HO135.out)) hb); have n7_ := Aside0.mk (Kd.R_lower (Kd.R_new' (Kd.R_new' (Kd.R_new' ho49 (Kd.R_lt (by (with_reducible repeat (first | apply Kd.R_alloc | apply Kd.R_drewN | apply Kd.R_drew)); exact HO115.out))) (Kd.R_lt (by (with_reducible repeat (first | apply Kd.R_alloc | apply Kd.R_drewN | apply Kd.R_drew)); exact HO124.out))) (Kd.R_lt (by (with_reducible repeat (first | apply Kd.R_alloc | apply Kd.R_drewN | apply Kd.R_drew)); exact HO132.out))) (below_size (by repeat (first | (with_reducible first | exact HB.out | apply below_alloc | apply pw_below_drewN | apply below_drew1) | exact HB.out)))); have n8_ := Aside0.mk (Kd.C_below (by first | (with_reducible exact HR119.out) | (with_reducible exact Kd.C_drewN HR119.out _) | (with_reducible exact Kd.C_drew HR119.out) | (with_reducible exact Kd.C_alloc HR119.out _) | repeat (first | (with_reducible exact HR119.out) | (with_reducible refine Kd.C_alloc ?_ _) | (with_reducible refine Kd.C_drewN ?_ _) | (with_reducible refine Kd.C_drew ?_) | exact HR119.out)) hb); have n9_ := Aside0.mk (below_step (by repeat (first | (with_reducible first | exact HB.out | apply below_alloc | apply pw_below_drewN | apply below_drew1) | exact HB.out)) hb); clear HO105; clear HO109; clear HO115; clear HO124; clear HO127; clear HO132; clear HO135; clear HR119; clear HB; have HO105 := n0_; have HO109 := n1_; have HO115 := n2_; have HO124 := n3_; have HO127 := n4_; have HO132 := n5_; have HO135 := n6_; have HO145 := n7_; have HR119 := n8_; have HB := n9_; clear n0_ n1_ n2_ n3_ n4_ n5_ n6_ n7_ n8_ n9_; clear hb ho49; obtain ⟨Ao50, co50, eo50⟩ := Kd.R_slice HO115.out; subst eo50; obtain ⟨Ao51, co51, eo51⟩ := Kd.R_slice HO145.out; subst eo51) | (go_at_call 16; (with_reducible refine (zigguratref30_Same.calls k _ _ t111 _ _ y143 true _ ?side1 ?side2 ?side3 ?side4 A24.out).mono ?_); (case side1 => repeat (first | exact (Kd.R_reads' HO115.out).2.2 | (with_reducible refine Kd.C_alloc ?_ _) | (with_reducible refine Kd.C_drewN ?_ _) | (with_reducible refine Kd.C_drew ?_))); (case side2 => exact (Kd.R_reads' HO115.out).2.1); (case side3 => repeat (first | exact (Kd.R_reads' HO145.out).2.2 | (with_reducible refine Kd.C_alloc ?_ _) | (with_reducible refine Kd.C_drewN ?_ _) | (with_reducible refine Kd.C_drew ?_))); (case side4 => exact (Kd.R_reads' HO145.out).2.1); rintro e w' ⟨rfl, ⟨nd, rfl⟩⟩; have q52 : (10 : Int) ≤ ((t103.length : Int) : Int) := of_decide_eq_true (by first | (with_reducible assumption) | assumption); obtain ⟨i052, hi052, _, hsz52, _⟩ := info_parts info5; have hroom52 : t103.length ≤ co35 := (Kd.R_reads' HO105.out).2.1; have hC52 : Kd.C (Kd.int .u8) _ (some ad138) t103.length t103 := (Kd.R_reads' HO105.out).2.2; have hcut52 := cut_to (P := Tryd.prog) 22 5 .i64 Tryd.underlying22 hi052 (some ad138) t103.length co35 10 (by omega) q52 hroom52; have hr52 := Kd.C_take (m := 10) hC52 (by omega); have hy52 : y147.length = (10 : Int).toNat := (by rw [Ny147.out, List.length_take]; omega); rw [← Ny147.out] at hr52; rw [← hy52] at hcut52; have HR150 := Aside0.mk hr52; have HC150 := Aside0.mk (show y147.length ≤ co35 from by omega); clear hr52 hC52 hroom52 hi052 hsz52; have KY52 := Aside0.mk hy52; clear hy52; have KL52 := Aside0.mk (show 10 ≤ t103.length from by omega); replace q52 := eq_true q52) | (go_at_call 19; rw [show y116.length = y147.length from by rw [Ny116.out, Ny147.out]]; (with_reducible refine (store_Repair.calls _ _ y147 t151 _ ?side0 ?side1 ?side2 A32.out).mono ?_); (case side0 => exact GOK.below HG.out (by repeat (first | (with_reducible first | exact HB.out | apply below_alloc | apply pw_below_drewN | apply below_drew1) | exact HB.out))); (case side1 => repeat (first | exact (by first | (with_reducible exact HR150.out) | (with_reducible exact Kd.C_drewN HR150.out _) | (with_reducible exact Kd.C_drew HR150.out) | (with_reducible exact Kd.C_alloc HR150.out _) | repeat (first | (with_reducible exact HR150.out) | (with_reducible refine Kd.C_alloc ?_ _) | (with_reducible refine Kd.C_drewN ?_ _) | (with_reducible refine Kd.C_drew ?_) | exact HR150.out)) | (with_reducible refine Kd.C_alloc ?_ _) | (with_reducible refine Kd.C_drewN ?_ _) | (with_reducible refine Kd.C_drew ?_))); (case side2 => exact HC150.out); rintro e w53 ⟨Ao54, co54, rfl, hl0, ho0, hb⟩;have LHO153 := Aside0.mk hl0;clear hl0; have n0_ := Aside0.mk (Kd.R_below (by (with_reducible repeat (first | apply Kd.R_alloc | apply Kd.R_drewN | apply Kd.R_drew)); exact HO105.out) hb); have n1_ := Aside0.mk (Kd.R_below (by (with_reducible repeat (first | apply Kd.R_alloc | apply Kd.R_drewN | apply Kd.R_drew)); exact HO109.out) hb); have n2_ := Aside0.mk (Kd.R_below (by (with_reducible repeat (first | apply Kd.R_alloc | apply Kd.R_drewN | apply Kd.R_drew)); exact HO115.out) hb); have n3_ := Aside0.mk (Kd.R_below (by (with_reducible repeat (first | apply Kd.R_alloc | apply Kd.R_drewN | apply Kd.R_drew)); exact HO124.out) hb); have n4_ := Aside0.mk (Kd.R_below (by (with_reducible repeat (first | apply Kd.R_alloc | apply Kd.R_drewN | apply Kd.R_drew)); exact HO127.out) hb); have n5_ := Aside0.mk (Kd.R_below (by (with_reducible repeat (first | apply Kd.R_alloc | apply Kd.R_drewN | apply Kd.R_drew)); exact HO132.out) hb); have n6_ := Aside0.mk (Kd.C_below (by first | (with_reducible exact HO135.out) | (with_reducible exact Kd.C_drewN HO135.out _) | (with_reducible exact Kd.C_drew HO135.out) | (with_reducible exact Kd.C_alloc HO135.out _) | repeat (first | (with_reducible exact HO135.out) | (with_reducible refine Kd.C_alloc ?_ _) | (with_reducible refine Kd.C_drewN ?_ _) | (with_reducible refine Kd.C_drew ?_) | exact HO135.out)) hb); have n7_ := Aside0.mk (Kd.R_below (by (with_reducible repeat (first | apply Kd.R_alloc | apply Kd.R_drewN | apply Kd.R_drew)); exact HO145.out) hb); have n8_ := Aside0.mk ho0; have n9_ := Aside0.mk (Kd.C_below (by first | (with_reducible exact HR119.out) | (with_reducible exact Kd.C_drewN HR119.out _) | (with_reducible exact Kd.C_drew HR119.out) | (with_reducible exact Kd.C_alloc HR119.out _) | repeat (first | (with_reducible exact HR119.out) | (with_reducible refine Kd.C_alloc ?_ _) | (with_reducible refine Kd.C_drewN ?_ _) | (with_reducible refine Kd.C_drew ?_) | exact HR119.out)) hb); have n10_ := Aside0.mk (Kd.C_below (by first | (with_reducible exact HR150.out) | (with_reducible exact Kd.C_drewN HR150.out _) | (with_reducible exact Kd.C_drew HR150.out) | (with_reducible exact Kd.C_alloc HR150.out _) | repeat (first | (with_reducible exact HR150.out) | (with_reducible refine Kd.C_alloc ?_ _) | (with_reducible refine Kd.C_drewN ?_ _) | (with_reducible refine Kd.C_drew ?_) | exact HR150.out)) hb); have n11_ := Aside0.mk (below_step (by repeat (first | (with_reducible first | exact HB.out | apply below_alloc | apply pw_below_drewN | apply below_drew1) | exact HB.out)) hb); clear HO105; clear HO109; clear HO115; clear HO124; clear HO127; clear HO132; clear HO135; clear HO145; clear HR119; clear HR150; clear HB; have HO105 := n0_; have HO109 := n1_; have HO115 := n2_; have HO124 := n3_; have HO127 := n4_; have HO132 := n5_; have HO135 := n6_; have HO145 := n7_; have HO153 := n8_; have HR119 := n9_; have HR150 := n10_; have HB := n11_; clear n0_ n1_ n2_ n3_ n4_ n5_ n6_ n7_ n8_ n9_ n10_ n11_; (try clear hb); (try clear hb2); (try clear hk); (try clear hi); (try clear ho0); skip))
                                              go_ret
                                              exact ⟨by first | rfl | (simp [errW_none, errW_some] <;> rfl) | (simp [*, errW_none, errW_some] <;> rfl), by repeat (first | (with_reducible first | exact HB.out | apply below_alloc | apply pw_below_drewN | apply below_drew1) | exact HB.out)⟩
                                            · rw [if_neg c30] at H
                                              exact absurd H (by simp)
                                          · rw [if_neg c29] at H
                                            exact absurd H (by simp)
                                        · rw [if_neg c28] at H
                                          exact absurd H (by simp)
                                      · rw [if_neg c27] at H
                                        exact absurd H (by simp)
                                    · rw [if_neg c26] at H
                                      exact absurd H (by simp)
                                  · replace c25 := Bool.eq_false_iff.mpr c25
                                    subst c25
                                    have H1 : (none) = some r := by rw [if_neg (show ¬ (false = true) by decide)] at H; exact H
                                    clear H
                                    have H := H1
                                    clear H1
                                    exact absurd H (by simp)
                                · rw [if_neg c23] at H
                                  exact absurd H (by simp)
                              · rw [if_neg c22] at H
                                exact absurd H (by simp)
                            · rw [if_neg c21] at H
                              exact absurd H (by simp)
                          · rw [if_neg c20] at H
                            exact absurd H (by simp)
                        · rw [if_neg c19] at H
                          exact absurd H (by simp)
                      · rw [if_neg c18] at H
                        exact absurd H (by simp)
                    · rw [if_neg c17] at H
                      exact absurd H (by simp)
                  · rw [if_neg c16] at H
                    exact absurd H (by simp)
                · rw [if_neg c15] at H
                  exact absurd H (by simp)
              · rw [if_neg c14] at H
                exact absurd H (by simp)
            · rw [if_neg c13] at H
              exact absurd H (by simp)
          · rw [if_neg c12] at H
            exact absurd H (by simp)
        · rw [if_neg c11] at H
          exact absurd H (by simp)
      · rw [if_neg c9] at H
        exact absurd H (by simp)
    · rw [if_neg c5] at H
      exact absurd H (by simp)
  · rw [if_neg c3] at H
    exact absurd H (by simp)

/-! ### zigguratref30_Sum: function 18 -/
mutual
def zigguratref30_Sum.l0 : Nat → List Int → Int → Int → Option (Int)
  | 0, _, _, _ => none
  | k + 1, x0, x3, x4 => if x4 < (x0.length : Int) then (if 0 ≤ x4 then (zigguratref30_Sum.l1 k x0 (Go.bits .xor .u32 x3 ((rd x0 x4) % 4294967296)) x4 0) else (none)) else (some (Go.bits .xor .u32 x3 4294967295))
def zigguratref30_Sum.l1 : Nat → List Int → Int → Int → Int → Option (Int)
  | 0, _, _, _, _ => none
  | k + 1, x0, x3, x4, x5 => if x5 < 8 then (if (Go.bits .and .u32 x3 1) = 1 then (zigguratref30_Sum.l1 k x0 (Go.bits .xor .u32 (x3 / 2) 3988292384) x4 (wrap64 (x5 + 1))) else (zigguratref30_Sum.l1 k x0 (x3 / 2) x4 (wrap64 (x5 + 1)))) else (zigguratref30_Sum.l0 k x0 x3 (wrap64 (x4 + 1)))
end
def zigguratref30_Sum.f (k : Nat) (l0 : List Int) : Option (Int) := zigguratref30_Sum.l0 k l0 4294967295 0
theorem zigguratref30_Sum.mono_l : ∀ k, (∀ y0 y1 y2, LeO (zigguratref30_Sum.l0 k y0 y1 y2) (zigguratref30_Sum.l0 (k + 1) y0 y1 y2)) ∧ (∀ y0 y1 y2 y3, LeO (zigguratref30_Sum.l1 k y0 y1 y2 y3) (zigguratref30_Sum.l1 (k + 1) y0 y1 y2 y3))
  | 0 => ⟨fun _ _ _ r h => by simp [zigguratref30_Sum.l0] at h, fun _ _ _ _ r h => by simp [zigguratref30_Sum.l1] at h⟩
  | k + 1 => by
    obtain ⟨ih0, ih1⟩ := zigguratref30_Sum.mono_l k
    refine ⟨?_, ?_⟩
    · intro y0 y1 y2
      unfold zigguratref30_Sum.l0
      repeat' first
      | (with_reducible exact ih0 _ _ _)
      | (with_reducible exact ih1 _ _ _ _)
      | (with_reducible exact LeO.refl _)
      | (with_reducible exact LeO.none _)
      | (with_reducible refine LeO.ite ?_ ?_)
      | (with_reducible refine LeO.bind ?_ (fun _ => ?_))
      | exact ih0 _ _ _
      | exact ih1 _ _ _ _
      | exact LeO.none _
      | refine LeO.ite ?_ ?_
      | refine LeO.bind ?_ (fun _ => ?_)
    · intro y0 y1 y2 y3
      unfold zigguratref30_Sum.l1
      repeat' first
      | (with_reducible exact ih0 _ _ _)
      | (with_reducible exact ih1 _ _ _ _)
      | (with_reducible exact LeO.refl _)
      | (with_reducible exact LeO.none _)
      | (with_reducible refine LeO.ite ?_ ?_)
      | (with_reducible refine LeO.bind ?_ (fun _ => ?_))
      | exact ih0 _ _ _
      | exact ih1 _ _ _ _
      | exact LeO.none _
      | refine LeO.ite ?_ ?_
      | refine LeO.bind ?_ (fun _ => ?_)
theorem zigguratref30_Sum.mono : ∀ a0 k, LeO (zigguratref30_Sum.f k a0) (zigguratref30_Sum.f (k + 1) a0) := by
  intro a0 k
  obtain ⟨ih0, ih1⟩ := zigguratref30_Sum.mono_l k
  unfold zigguratref30_Sum.f
  repeat' first
      | (with_reducible exact ih0 _ _ _)
      | (with_reducible exact ih1 _ _ _ _)
      | (with_reducible exact LeO.refl _)
      | (with_reducible exact LeO.none _)
      | (with_reducible refine LeO.ite ?_ ?_)
      | (with_reducible refine LeO.bind ?_ (fun _ => ?_))
      | exact ih0 _ _ _
      | exact ih1 _ _ _ _
      | exact LeO.none _
      | refine LeO.ite ?_ ?_
      | refine LeO.bind ?_ (fun _ => ?_)
set_option maxHeartbeats 8000000 in
set_option maxRecDepth 100000 in
theorem zigguratref30_Sum.calls (k : Nat) (A0 : Option Addr) (c0 : Nat) (l0 : List Int) (r : Int) (w : World) (hr0 : Kd.C (Kd.int .u8) w A0 l0.length l0) (hc0 : l0.length ≤ c0) (h : zigguratref30_Sum.f k l0 = some r) :
    Calls Tryd.prog 18 #[.slice A0 l0.length c0] w fun e w' => e = .returned (.int .u32 r) ∧ Drawn0 w w' := by
  have HR0 := Aside0.mk hr0
  have HC0 := Aside0.mk hc0
  clear hr0 hc0
  have H : (zigguratref30_Sum.l0 k l0 4294967295 0) = some r := h
  clear h
  have H' := Aside0.mk H
  clear H
  go_enter Tryd.func18, Tryd.ntmps18
  go_wp2
  go_loopg [3, 4] k (fun kq v3 v4 w' => ∃ (x3_1 : Int) (x4_1 : Int), v3 = .int .u32 x3_1 ∧ v4 = .int .i64 x4_1 ∧ Aside0 (zigguratref30_Sum.l0 kq l0 x3_1 x4_1 = some r) ∧ Aside0 (kq ≤ k) ∧ Drawn0 w w')
  case atStart => exact ⟨(4294967295), (0), (by first | rfl | (simp; done) | (simp [*]; done)), (by first | rfl | (simp; done) | (simp [*]; done)), H', ⟨Nat.le_refl _⟩, by repeat (first | exact Drawn0.refl _ | apply Drawn0.step)⟩
  case round =>
    clear H'
    try clear c1
    obtain ⟨x3_1, x4_1, rfl, rfl, HA, HK1, ⟨m1, rfl⟩⟩ := hrel
    cases gk with
    | zero => exact absurd HA.out (by simp [zigguratref30_Sum.l0])
    | succ k1 =>
      have H := HA.out
      clear HA
      simp only [zigguratref30_Sum.l0] at H
      by_cases c2 : x4_1 < (l0.length : Int)
      · rw [if_pos c2] at H
        have c2b0 : decide (x4_1 < (l0.length : Int)) = true := decide_eq_true c2
        clear c2
        by_cases c3 : 0 ≤ x4_1
        · rw [if_pos c3] at H
          have c3b0 : decide (0 ≤ x4_1) = true := decide_eq_true c3
          clear c3
          have H' := Aside0.mk H
          clear H
          have p154 : 0 ≤ (x4_1 : Int) := of_decide_eq_true (by first | (with_reducible assumption) | assumption)
          have q154 : x4_1 < (l0.length : Int) := of_decide_eq_true (by first | (with_reducible assumption) | assumption)
          obtain ⟨ad154, e154, hx154_0⟩ := Kd.at_int HR0.out x4_1 p154 q154
          cases e154
          replace p154 := eq_true p154
          replace q154 := eq_true q154
          go_wp2
          go_loopg [3, 5] k1 (fun kq v3 v5 w' => ∃ (x3_2 : Int) (x5_2 : Int), v3 = .int .u32 x3_2 ∧ v5 = .int .i64 x5_2 ∧ Aside0 (zigguratref30_Sum.l1 kq l0 x3_2 x4_1 x5_2 = some r) ∧ Aside0 (kq ≤ k1) ∧ Drawn0 w w')
          case atStart => exact ⟨(Go.bits .xor .u32 x3_1 ((rd l0 x4_1) % 4294967296)), (0), (by first | rfl | (simp; done) | (simp [*]; done)), (by first | rfl | (simp; done) | (simp [*]; done)), H', ⟨Nat.le_refl _⟩, by repeat (first | exact Drawn0.refl _ | apply Drawn0.step)⟩
          case round =>
            clear H'
            try clear c1
            try clear p1
            try clear q1
            try clear hx1
            try clear c2
            try clear c2b0
            try clear p2
            try clear c3
            try clear c3b0
            try clear hx154_0
            try clear p154
            try clear q154
            obtain ⟨x3_2, x5_2, rfl, rfl, HA, HK2, ⟨m2, rfl⟩⟩ := hrel
            cases gk with
            | zero => exact absurd HA.out (by simp [zigguratref30_Sum.l1])
            | succ k2 =>
              have H := HA.out
              clear HA
              simp only [zigguratref30_Sum.l1] at H
              by_cases c4 : x5_2 < 8
              · rw [if_pos c4] at H
                have c4b0 : decide (x5_2 < 8) = true := decide_eq_true c4
                clear c4
                by_cases c5 : (Go.bits .and .u32 x3_2 1) = 1
                · rw [if_pos c5] at H
                  have c5b0 : ((Go.bits .and .u32 x3_2 1) == 1) = true := beq_iff_eq.mpr c5
                  have c5b1 : ((Go.bits .and .u32 x3_2 1) != 1) = false := bne_eq_false_iff_eq.mpr c5
                  clear c5
                  have H' := Aside0.mk H
                  clear H
                  go_wp2
                  go_roundg k2
                  case measure => have := HK1.out; have := HK2.out; omega
                  case rel => exact ⟨(Go.bits .xor .u32 (x3_2 / 2) 3988292384), (wrap64 (x5_2 + 1)), (by first | rfl | (simp; done) | (simp [*]; done)), (by first | rfl | (simp; done) | (simp [*]; done)), (by first | exact H' | (subst_vars; exact H')), ⟨by have := HK1.out; have := HK2.out; omega⟩, by repeat (first | exact Drawn0.refl _ | apply Drawn0.step)⟩
                · rw [if_neg c5] at H
                  have c5b0 : ((Go.bits .and .u32 x3_2 1) == 1) = false := beq_eq_false_iff_ne.mpr c5
                  have c5b1 : ((Go.bits .and .u32 x3_2 1) != 1) = true := bne_iff_ne.mpr c5
                  have H' := Aside0.mk H
                  clear H
                  go_wp2
                  go_roundg k2
                  case measure => have := HK1.out; have := HK2.out; omega
                  case rel => exact ⟨(x3_2 / 2), (wrap64 (x5_2 + 1)), (by first | rfl | (simp; done) | (simp [*]; done)), (by first | rfl | (simp; done) | (simp [*]; done)), (by first | exact H' | (subst_vars; exact H')), ⟨by have := HK1.out; have := HK2.out; omega⟩, by repeat (first | exact Drawn0.refl _ | apply Drawn0.step)⟩
              · rw [if_neg c4] at H
                have c4b0 : decide (x5_2 < 8) = false := decide_eq_false c4
                clear c4
                have H' := Aside0.mk H
                clear H
                go_wp2
                go_roundg k2
                case measure => have := HK1.out; have := HK2.out; omega
                case rel => exact ⟨(x3_2), (wrap64 (x4_1 + 1)), (by first | rfl | (simp; done) | (simp [*]; done)), (by first | rfl | (simp; done) | (simp [*]; done)), (by first | exact H' | (subst_vars; exact H')), ⟨by have := HK1.out; have := HK2.out; omega⟩, by repeat (first | exact Drawn0.refl _ | apply Drawn0.step)⟩
        · rw [if_neg c3] at H
          exact absurd H (by simp)
      · rw [if_neg c2] at H
        have c2b0 : decide (x4_1 < (l0.length : Int)) = false := decide_eq_false c2
        clear c2
        obtain rfl := Option.some.inj H
        go_wp2
        go_ret
        exact ⟨by first | rfl | (simp; done) | (simp [*]; done), by repeat (first | exact Drawn0.refl _ | apply Drawn0.step)⟩

/-! ### zigguratref30_May: function 23 -/
def zigguratref30_May.f (a0_0 : ByteArray) (a0_1 : ByteArray) : Option (Bool) := if (a0_0.size : Int) ≥ 1 then (if (a0_0.size : Int) ≤ 20 then (some (decide ((a0_1.size : Int) ≤ 20000))) else (some false)) else (some false)
set_option maxHeartbeats 8000000 in
set_option maxRecDepth 100000 in
theorem zigguratref30_May.calls (a0_0 : ByteArray) (a0_1 : ByteArray) (r : Bool) (w : World) (h : zigguratref30_May.f a0_0 a0_1 = some r) :
    Calls Tryd.prog 23 #[.agg #[.string a0_0, .string a0_1]] w fun e w' => e = .returned (.bool r) ∧ Below w.heap.size w w' := by
  have hu24 := Tryd.underlying24
  have HB := Aside0.mk (Below.refl w.heap.size w)
  have H : (if (a0_0.size : Int) ≥ 1 then (if (a0_0.size : Int) ≤ 20 then (some (decide ((a0_1.size : Int) ≤ 20000))) else (some false)) else (some false)) = some r := h
  clear h
  by_cases c2 : (a0_0.size : Int) ≥ 1
  · rw [if_pos c2] at H
    have c2b0 : decide (1 ≤ (a0_0.size : Int)) = true := decide_eq_true c2
    have c2b1 : decide (1 ≤ a0_0.size) = true := decide_eq_true (by omega)
    clear c2
    by_cases c3 : (a0_0.size : Int) ≤ 20
    · rw [if_pos c3] at H
      have c3b0 : decide ((a0_0.size : Int) ≤ 20) = true := decide_eq_true c3
      have c3b1 : decide (a0_0.size ≤ 20) = true := decide_eq_true (by omega)
      clear c3
      obtain rfl := Option.some.inj H
      go_enter Tryd.func23, Tryd.ntmps23
      go_wp2_with (first | ((with_reducible refine gate_dst (N := 1) rfl ?_); (try (refine gate_guard (by rfl) ?_; dsimp only)); refine box_event ?hg (N := 1) ?hd (cs := #[.string a0_0, .string a0_1]) (t := 24) ?hr ?_; (case hd => rfl); (case hg => rfl); (case hr => first | (go_simp; done) | (go_simp; rfl)); intro gb155 hg w4 hbox hb; have n0_ := Aside0.mk (below_step (by repeat (first | (with_reducible first | exact HB.out | apply below_alloc | apply pw_below_drewN | apply below_drew1) | exact HB.out)) hb); have n1_ := Aside0.mk (hbox); have n2_ := Aside0.mk ((by rw [hg]; exact (below_size (by repeat (first | (with_reducible first | exact HB.out | apply below_alloc | apply pw_below_drewN | apply below_drew1) | exact HB.out))) : w.heap.size ≤ gb155)); have n3_ := Aside0.mk ((by rw [hg]; exact (below_size (by repeat (first | (with_reducible first | exact HB.out | apply below_alloc | apply pw_below_drewN | apply below_drew1) | exact HB.out))) : w.heap.size ≤ gb155)); clear HB; have HB := n0_; have BK155 := n1_; have GW155 := n2_; have GE155 := n3_; clear n0_ n1_ n2_ n3_; clear hb hbox hg; have hcz5_0 : w4.cell? ⟨gb155, 0, none⟩ = some (.string a0_0) := (blk_cell BK155.out 0).trans rfl; have hcz5_1 : w4.cell? ⟨gb155, 1, none⟩ = some (.string a0_1) := (blk_cell BK155.out 1).trans rfl; have hfz5_0 := blk_frozen BK155.out 0; have hfz5_1 := blk_frozen BK155.out 1))
      go_ret
      exact ⟨by first | rfl | (simp [errW_none, errW_some] <;> rfl) | (simp [*, errW_none, errW_some] <;> rfl), by repeat (first | (with_reducible first | exact HB.out | apply below_alloc | apply pw_below_drewN | apply below_drew1 | refine below_set ?_ GE155.out) | exact HB.out)⟩
    · rw [if_neg c3] at H
      have c3b0 : decide ((a0_0.size : Int) ≤ 20) = false := decide_eq_false c3
      have c3b1 : decide (a0_0.size ≤ 20) = false := decide_eq_false (by omega)
      clear c3
      obtain rfl := Option.some.inj H
      go_enter Tryd.func23, Tryd.ntmps23
      go_wp2_with (first | ((with_reducible refine gate_dst (N := 1) rfl ?_); (try (refine gate_guard (by rfl) ?_; dsimp only)); refine box_event ?hg (N := 1) ?hd (cs := #[.string a0_0, .string a0_1]) (t := 24) ?hr ?_; (case hd => rfl); (case hg => rfl); (case hr => first | (go_simp; done) | (go_simp; rfl)); intro gb155 hg w6 hbox hb; have n0_ := Aside0.mk (below_step (by repeat (first | (with_reducible first | exact HB.out | apply below_alloc | apply pw_below_drewN | apply below_drew1) | exact HB.out)) hb); have n1_ := Aside0.mk (hbox); have n2_ := Aside0.mk ((by rw [hg]; exact (below_size (by repeat (first | (with_reducible first | exact HB.out | apply below_alloc | apply pw_below_drewN | apply below_drew1) | exact HB.out))) : w.heap.size ≤ gb155)); have n3_ := Aside0.mk ((by rw [hg]; exact (below_size (by repeat (first | (with_reducible first | exact HB.out | apply below_alloc | apply pw_below_drewN | apply below_drew1) | exact HB.out))) : w.heap.size ≤ gb155)); clear HB; have HB := n0_; have BK155 := n1_; have GW155 := n2_; have GE155 := n3_; clear n0_ n1_ n2_ n3_; clear hb hbox hg; have hcz7_0 : w6.cell? ⟨gb155, 0, none⟩ = some (.string a0_0) := (blk_cell BK155.out 0).trans rfl; have hcz7_1 : w6.cell? ⟨gb155, 1, none⟩ = some (.string a0_1) := (blk_cell BK155.out 1).trans rfl; have hfz7_0 := blk_frozen BK155.out 0; have hfz7_1 := blk_frozen BK155.out 1))
      go_ret
      exact ⟨by first | rfl | (simp [errW_none, errW_some] <;> rfl) | (simp [*, errW_none, errW_some] <;> rfl), by repeat (first | (with_reducible first | exact HB.out | apply below_alloc | apply pw_below_drewN | apply below_drew1 | refine below_set ?_ GE155.out) | exact HB.out)⟩
  · rw [if_neg c2] at H
    have c2b0 : decide (1 ≤ (a0_0.size : Int)) = false := decide_eq_false c2
    have c2b1 : decide (1 ≤ a0_0.size) = false := decide_eq_false (by omega)
    clear c2
    obtain rfl := Option.some.inj H
    go_enter Tryd.func23, Tryd.ntmps23
    go_wp2_with (first | ((with_reducible refine gate_dst (N := 1) rfl ?_); (try (refine gate_guard (by rfl) ?_; dsimp only)); refine box_event ?hg (N := 1) ?hd (cs := #[.string a0_0, .string a0_1]) (t := 24) ?hr ?_; (case hd => rfl); (case hg => rfl); (case hr => first | (go_simp; done) | (go_simp; rfl)); intro gb155 hg w8 hbox hb; have n0_ := Aside0.mk (below_step (by repeat (first | (with_reducible first | exact HB.out | apply below_alloc | apply pw_below_drewN | apply below_drew1) | exact HB.out)) hb); have n1_ := Aside0.mk (hbox); have n2_ := Aside0.mk ((by rw [hg]; exact (below_size (by repeat (first | (with_reducible first | exact HB.out | apply below_alloc | apply pw_below_drewN | apply below_drew1) | exact HB.out))) : w.heap.size ≤ gb155)); have n3_ := Aside0.mk ((by rw [hg]; exact (below_size (by repeat (first | (with_reducible first | exact HB.out | apply below_alloc | apply pw_below_drewN | apply below_drew1) | exact HB.out))) : w.heap.size ≤ gb155)); clear HB; have HB := n0_; have BK155 := n1_; have GW155 := n2_; have GE155 := n3_; clear n0_ n1_ n2_ n3_; clear hb hbox hg; have hcz9_0 : w8.cell? ⟨gb155, 0, none⟩ = some (.string a0_0) := (blk_cell BK155.out 0).trans rfl; have hcz9_1 : w8.cell? ⟨gb155, 1, none⟩ = some (.string a0_1) := (blk_cell BK155.out 1).trans rfl; have hfz9_0 := blk_frozen BK155.out 0; have hfz9_1 := blk_frozen BK155.out 1))
    go_ret
    exact ⟨by first | rfl | (simp [errW_none, errW_some] <;> rfl) | (simp [*, errW_none, errW_some] <;> rfl), by repeat (first | (with_reducible first | exact HB.out | apply below_alloc | apply pw_below_drewN | apply below_drew1 | refine below_set ?_ GE155.out) | exact HB.out)⟩

/-! ### zigguratref30_four: function 26 -/
def zigguratref30_four.f (a0 : Int) : Option (List Int) := some (([(a0) % 256, (a0 / 256) % 256, (a0 / 65536) % 256, (a0 / 16777216) % 256] : List Int))
set_option maxHeartbeats 8000000 in
set_option maxRecDepth 100000 in
theorem zigguratref30_four.calls (a0 : Int) (r : List Int) (w : World) (h : zigguratref30_four.f a0 = some r) :
    Calls Tryd.prog 26 #[.int .u32 a0] w fun e w' => ∃ v0_ : Value, e = .returned (v0_) ∧ Kd.R (Kd.int .u8) 5 w' w.heap.size (fun _ => True) v0_ r ∧ Below w.heap.size w w' := by
  have HB := Aside0.mk (Below.refl w.heap.size w)
  have H : (some (([(a0) % 256, (a0 / 256) % 256, (a0 / 65536) % 256, (a0 / 16777216) % 256] : List Int))) = some r := h
  clear h
  obtain ⟨y156, hy156⟩ : ∃ y_ : List Int, y_ = (([(a0) % 256, (a0 / 256) % 256, (a0 / 65536) % 256, (a0 / 16777216) % 256] : List Int)) := ⟨_, rfl⟩
  replace H : (some y156) = some r := by first | (rw [hy156]; with_reducible exact H) | (have H2_ := (Option.bind_some _ _).symm.trans H; rw [hy156]; with_reducible exact H2_) | (have H2_ := (Option.bind_some _ _).symm.trans H; with_reducible exact H2_) | with_reducible exact H | (rw [hy156]; exact H) | exact H
  have Ny156 := Aside0.mk hy156
  clear hy156
  obtain rfl := Option.some.inj H
  go_enter Tryd.func26, Tryd.ntmps26
  go_wp2_with (first | ((with_reducible refine gate_dst (N := 14) rfl ?_); refine Kd.R_lit (Kd.int .u8) _ 5 ?hg (N := 14) ?hd (xs := ([(a0) % 256, (a0 / 256) % 256, (a0 / 65536) % 256, (a0 / 16777216) % 256] : List Int)) (inner := [.int .u8 ((a0) % 256), .int .u8 ((a0 / 256) % 256), .int .u8 ((a0 / 65536) % 256), .int .u8 ((a0 / 16777216) % 256)]) (ok := fun _ => True) (okp := fun _ => True) ?hr ?hp (fun _ hk => hk) trivial (Below.refl _ _) (Nat.le_refl _) (by simp) ?_; (case hd => rfl); (case hg => rfl); (case hr => first | (go_simp; done) | (go_simp; rfl)); (case hp => exact (Reps.one (show Kd.M (Kd.int .u8) _ _ _ ((a0) % 256) [.int .u8 ((a0) % 256)] from rfl) (Reps.one (show Kd.M (Kd.int .u8) _ _ _ ((a0 / 256) % 256) [.int .u8 ((a0 / 256) % 256)] from rfl) (Reps.one (show Kd.M (Kd.int .u8) _ _ _ ((a0 / 65536) % 256) [.int .u8 ((a0 / 65536) % 256)] from rfl) (Reps.one (show Kd.M (Kd.int .u8) _ _ _ ((a0 / 16777216) % 256) [.int .u8 ((a0 / 16777216) % 256)] from rfl) (Reps.none _ _)))))); intro v157 w2 ho3 hb hg_ hnew_; clear hg_ hnew_; (first | rw [← Ny156.out] at ho3 | (simp only [Int.reduceToNat] at ho3; rw [← Ny156.out] at ho3)); have n0_ := Aside0.mk (Kd.R_lower ho3 (below_size (by repeat (first | (with_reducible first | exact HB.out | apply below_alloc | apply pw_below_drewN | apply below_drew1) | exact HB.out)))); have n1_ := Aside0.mk (below_step (by repeat (first | (with_reducible first | exact HB.out | apply below_alloc | apply pw_below_drewN | apply below_drew1) | exact HB.out)) hb); clear HB; have HO158 := n0_; have HB := n1_; clear n0_ n1_; clear hb ho3))
  go_ret
  exact ⟨_, by first | rfl | (simp [errW_none, errW_some] <;> rfl) | (simp [*, errW_none, errW_some] <;> rfl), by (with_reducible repeat (first | apply Kd.R_alloc | apply Kd.R_drewN | apply Kd.R_drew)); exact HO158.out, by repeat (first | (with_reducible first | exact HB.out | apply below_alloc | apply pw_below_drewN | apply below_drew1) | exact HB.out)⟩

end Go.Proofs.YtkeegknadegaaaaDoor.Q
