/-
  What Made and written answer, in plain words.
-/
import Derived.Test.YtkeegknadegaaaaDoorQ21
import Derived.Test.YtkeegknadegaaaaDoorPLog
import Derived.Test.YtkeegknadegaaaaDoorLSame
namespace Go.Proofs.YtkeegknadegaaaaDoor.Q
open Go.RowKit Go.Proofs.YtkeegknadegaaaaDoor.S Go.Proofs.YtkeegknadegaaaaDoorW.PrintWords
set_option linter.unusedVariables false

theorem append_is {l : List Int} {n t : ByteArray} (hm : mayB n t = true) (hl : l.length ≤ 1000000000) : store_Append.f l n t = some (l ++ recOf n t, 0) := by
  unfold store_Append.f
  rw [if_pos hm, if_pos hl]
theorem logOf_take_succ (m : List S24) (i : Nat) (h : i < m.length) : logOf (m.take (i + 1)) = logOf (m.take i) ++ recOf m[i].f0 m[i].f1 := by
  rw [List.take_succ_eq_append_getElem h, logOf_append]
  simp [logOf]
theorem logOf_take_le (m : List S24) (i : Nat) : (logOf (m.take i)).length ≤ (logOf m).length := by
  have := congrArg (fun x => (logOf x).length) (List.take_append_drop i m)
  simp only [logOf_append, List.length_append] at this
  omega
theorem written_l (m : List S24) (hm : mayAll m) (hl : (logOf m).length ≤ 1000000000) (hc : m.length < 4611686018427387904) : ∀ (n k i : Nat), m.length - i = n → n < k → i ≤ m.length →
    zigguratlaw30_written.l0 k m (logOf (m.take i)) (i : Int) = some (logOf m, true) := by
  intro n
  induction n with
  | zero =>
    intro k i hn hk hi
    obtain ⟨k, rfl⟩ : ∃ k', k = k' + 1 := ⟨k - 1, by omega⟩
    simp only [zigguratlaw30_written.l0]
    rw [if_neg (by omega), List.take_of_length_le (by omega)]
  | succ n ih =>
    intro k i hn hk hi
    obtain ⟨k, rfl⟩ : ∃ k', k = k' + 1 := ⟨k - 1, by omega⟩
    have h0 : i < m.length := by omega
    simp only [zigguratlaw30_written.l0]
    have e0 : rd_T24 m (i : Int) = m[i] := by simp [rd_T24, List.getD, h0]
    rw [if_pos (by omega), if_pos (by omega), e0, append_is (hm _ (List.getElem_mem h0)) (by have := logOf_take_le m i; omega)]
    simp only [Option.bind_some]
    rw [if_pos trivial, ← logOf_take_succ m i h0, show wrap64 ((i : Int) + 1) = ((i + 1 : Nat) : Int) by unfold wrap64; omega]
    exact ih k (i + 1) (by omega) (by omega) (by omega)
theorem written_is (m : List S24) (hm : mayAll m) (hl : (logOf m).length ≤ 1000000000) (hc : m.length < 4611686018427387904) (k : Nat) (hk : m.length < k) : zigguratlaw30_written.f k m = some (logOf m, true) := by
  unfold zigguratlaw30_written.f
  exact written_l m hm hl hc m.length k 0 (by omega) hk (by omega)
/-- What Made gives: entries that may be, at most so many, each short. -/
def short (m : List S24) : Prop := ∀ e ∈ m, e.f0.size + e.f1.size ≤ 220
theorem made_l (l0 : List S24) (most : Nat) (hmost : most ≤ 1000) : ∀ (n k i : Nat) (m : List S24), most - i = n → 2 * n + 2 < k → m.length = i → i ≤ most → mayAll m → short m →
    ∃ r, zigguratref30_Made.l0 k l0 (most : Int) m (i : Int) = some r ∧ mayAll r ∧ short r ∧ r.length ≤ most := by
  intro n
  induction n with
  | zero =>
    intro k i m hn hk hl hi h1 h2
    obtain ⟨k, rfl⟩ : ∃ k', k = k' + 1 + 1 := ⟨k - 2, by omega⟩
    refine ⟨m, ?_, h1, h2, by omega⟩
    simp only [zigguratref30_Made.l0, zigguratref30_Made.j1]
    rw [show decide ((i : Int) < (most : Int)) = false by simp; omega]
    by_cases hlt : (i : Int) < (l0.length : Int)
    · rw [if_pos hlt, if_neg (by decide)]
    · rw [if_neg hlt, if_neg (by decide)]
  | succ n ih =>
    intro k i m hn hk hl hi h1 h2
    obtain ⟨k, rfl⟩ : ∃ k', k = k' + 1 + 1 := ⟨k - 2, by omega⟩
    simp only [zigguratref30_Made.l0, zigguratref30_Made.j1]
    by_cases hlt : (i : Int) < (l0.length : Int)
    · rw [if_pos hlt, show decide ((i : Int) < (most : Int)) = true by simp; omega, if_pos rfl, if_pos (by omega), if_pos hlt]
      have ew : wrap64 ((i : Int) + 1) = ((i + 1 : Nat) : Int) := by unfold wrap64; omega
      generalize rd_T24 l0 (i : Int) = x
      have hmt : mn (x.f1.size : Int) 200 = ((min x.f1.size 200 : Nat) : Int) := by unfold mn; split <;> omega
      have hmn : mn (x.f0.size : Int) 20 = ((min x.f0.size 20 : Nat) : Int) := by unfold mn; split <;> omega
      have hm1 : mn 1 20 = 1 := by unfold mn; decide
      rw [hmt, hmn, hm1, ew]
      simp only [Int.toNat_natCast]
      by_cases hz : (x.f0.size : Int) = 0
      · rw [if_pos hz, if_pos (by omega), if_pos (by omega), if_pos (by omega), if_pos (by omega), if_pos (by omega)]
        refine ih k (i + 1) _ (by omega) (by omega) (by simp; omega) (by omega) ?_ ?_
        · intro e he
          simp only [List.mem_append, List.mem_singleton] at he
          rcases he with he | rfl
          · exact h1 e he
          · rw [mayB_iff]
            simp only [ByteArray.size_extract]
            exact ⟨by decide, by decide, by omega⟩
        · intro e he
          simp only [List.mem_append, List.mem_singleton] at he
          rcases he with he | rfl
          · exact h2 e he
          · have hs : ((⟨#[120]⟩ : ByteArray).extract 0 ((1 : Int)).toNat).size = 1 := by decide
            rw [hs]
            simp only [ByteArray.size_extract]
            omega
      · rw [if_neg hz, if_pos (by omega), if_pos (by omega), if_pos (by omega), if_pos (by omega), if_pos (by omega)]
        refine ih k (i + 1) _ (by omega) (by omega) (by simp; omega) (by omega) ?_ ?_
        · intro e he
          simp only [List.mem_append, List.mem_singleton] at he
          rcases he with he | rfl
          · exact h1 e he
          · rw [mayB_iff]
            simp only [ByteArray.size_extract]
            omega
        · intro e he
          simp only [List.mem_append, List.mem_singleton] at he
          rcases he with he | rfl
          · exact h2 e he
          · simp only [ByteArray.size_extract]
            omega
    · rw [if_neg hlt]
      refine ⟨m, if_neg (by decide), h1, h2, by omega⟩
theorem made_is (l0 : List S24) (most : Nat) (hmost : most ≤ 1000) (k : Nat) (hk : 2 * most + 2 < k) : ∃ r, zigguratref30_Made.f k l0 (most : Int) = some r ∧ mayAll r ∧ short r ∧ r.length ≤ most := by
  unfold zigguratref30_Made.f
  exact made_l l0 most hmost most k 0 [] (by omega) hk rfl (by omega) (fun x hx => by simp at hx) (fun x hx => by simp at hx)
theorem log_len (es : List S24) (h : mayAll es) : 10 * es.length ≤ (logOf es).length := by
  induction es with
  | nil => simp [logOf]
  | cons e es ih =>
    have h1 := ih (fun x hx => h x (by simp [hx]))
    have h2 := mayB_iff.1 (h e (by simp))
    rw [logOf_cons, List.length_append, recOf_length, List.length_cons]
    omega
theorem short_len (m : List S24) (h : short m) : (logOf m).length ≤ 229 * m.length := by
  induction m with
  | nil => simp [logOf]
  | cons e m ih =>
    have h1 := ih (fun x hx => h x (by simp [hx]))
    have h2 := h e (by simp)
    rw [logOf_cons, List.length_append, recOf_length, List.length_cons]
    omega
end Go.Proofs.YtkeegknadegaaaaDoor.Q
