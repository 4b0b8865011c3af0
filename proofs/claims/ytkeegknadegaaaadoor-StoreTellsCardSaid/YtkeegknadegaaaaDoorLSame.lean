/-
  Plain laws on what the document's small functions answer.
-/
import Derived.Test.YtkeegknadegaaaaDoorQ5
namespace Go.Proofs.YtkeegknadegaaaaDoor.Q
open Go.RowKit Go.Proofs.YtkeegknadegaaaaDoorW.PrintWords
set_option linter.unusedVariables false

theorem ba_ext {x y : ByteArray} (h : x.toList = y.toList) : x = y := by
  rw [ByteArray.toList_eq, ByteArray.toList_eq] at h
  cases x with | mk a => cases y with | mk b => exact congrArg ByteArray.mk (Array.toList_inj.1 h)
theorem ba_beq (x y : ByteArray) : (x.toList == y.toList) = decide (x = y) := by
  by_cases h : x = y
  · subst h; simp
  · have : ¬ x.toList = y.toList := fun e => h (ba_ext e)
    simp [h, this]
theorem s24_ext {x y : S24} (h0 : x.f0 = y.f0) (h1 : x.f1 = y.f1) : x = y := by cases x; cases y; simp at h0 h1; subst h0; subst h1; rfl
theorem same_l (a b : List S24) (hl : a.length = b.length) (hm : a.length < 4611686018427387904) : ∀ (n k i : Nat), a.length - i = n → n < k → i ≤ a.length →
    zigguratref30_Same.l0 k a b (i : Int) = some true ∧ a.drop i = b.drop i ∨ zigguratref30_Same.l0 k a b (i : Int) = some false ∧ a.drop i ≠ b.drop i := by
  intro n
  induction n with
  | zero =>
    intro k i hn hk hi
    obtain ⟨k, rfl⟩ : ∃ k', k = k' + 1 := ⟨k - 1, by omega⟩
    left
    refine ⟨?_, ?_⟩
    · simp only [zigguratref30_Same.l0]
      rw [if_neg (by omega)]
    · rw [List.drop_of_length_le (by omega), List.drop_of_length_le (by omega)]
  | succ n ih =>
    intro k i hn hk hi
    obtain ⟨k, rfl⟩ : ∃ k', k = k' + 1 := ⟨k - 1, by omega⟩
    have hia : i < a.length := by omega
    have hib : i < b.length := by omega
    have ea : rd_T24 a (i : Int) = a[i] := by simp [rd_T24, List.getD, hia]
    have eb : rd_T24 b (i : Int) = b[i] := by simp [rd_T24, List.getD, hib]
    rw [List.drop_eq_getElem_cons hia, List.drop_eq_getElem_cons hib]
    simp only [zigguratref30_Same.l0]
    rw [if_pos (by omega), if_pos (by omega), if_pos (by omega), ea, eb, ba_beq, ba_beq]
    by_cases he : a[i] = b[i]
    · rw [he]
      simp only [decide_true, Bool.not_true, Bool.or_self, Bool.false_eq_true, if_false]
      rw [show wrap64 ((i : Int) + 1) = ((i + 1 : Nat) : Int) by unfold wrap64; omega]
      rcases ih k (i + 1) (by omega) (by omega) (by omega) with ⟨h1, h2⟩ | ⟨h1, h2⟩
      · exact .inl ⟨h1, by rw [h2]⟩
      · exact .inr ⟨h1, fun e => h2 (List.cons.inj e).2⟩
    · right
      refine ⟨?_, fun e => he (List.cons.inj e).1⟩
      have : ¬ (a[i].f0 = b[i].f0 ∧ a[i].f1 = b[i].f1) := fun h => he (s24_ext h.1 h.2)
      have hc : ((!decide (a[i].f0 = b[i].f0)) || (!decide (a[i].f1 = b[i].f1))) = true := by
        by_cases h0 : a[i].f0 = b[i].f0
        · have : ¬ a[i].f1 = b[i].f1 := fun h => this ⟨h0, h⟩
          simp [this]
        · simp [h0]
      rw [if_pos hc]
theorem same_is (a b : List S24) (k : Nat) (hk : a.length < k) (hm : a.length < 4611686018427387904) : (zigguratref30_Same.f k a b = some true ∧ a = b) ∨ (zigguratref30_Same.f k a b = some false ∧ a ≠ b) := by
  unfold zigguratref30_Same.f
  by_cases hl : a.length = b.length
  · rw [if_pos (by omega)]
    have := same_l a b hl hm a.length k 0 (by omega) hk (by omega)
    simpa using this
  · rw [if_neg (by omega)]
    exact .inr ⟨rfl, fun e => hl (by rw [e])⟩
theorem same_self (a : List S24) (k : Nat) (hk : a.length < k) (hm : a.length < 4611686018427387904) : zigguratref30_Same.f k a a = some true := by
  rcases same_is a a k hk hm with ⟨h, _⟩ | ⟨_, h⟩
  · exact h
  · exact absurd rfl h
end Go.Proofs.YtkeegknadegaaaaDoor.Q
