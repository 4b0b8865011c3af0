/-
  store.Repair and the document's, by hand: both give a part of what came in.
-/
import Derived.Test.YtkeegknadegaaaaDoorHRead
namespace Go.Proofs.YtkeegknadegaaaaDoor.Q
open Go.RowKit Go.Shelf Go.Proofs.YtkeegknadegaaaaDoor.S Go.Proofs.YtkeegknadegaaaaDoorW.PrintWords Go.Proofs.YtkeegknadegaaaaDoorW.PrintLast Go.Proofs.YtkeegknadegaaaaDoorW.PrintMore
set_option linter.unusedVariables false

theorem scan_ends : ∀ (f : Nat) (l : List Int) (p : Nat), ∀ g ∈ (scan f l p).1, p ≤ g.2.2 ∧ g.2.2 ≤ l.length
  | 0, _, _ => by simp [scan]
  | f + 1, l, p => by
    simp only [scan]
    split
    · simp
    · rename_i hp
      cases h : entryOf (l.drop p) with
      | bad c => simp
      | good n t k =>
        have hk := entryOf_good h
        rw [List.length_drop] at hk
        have ih := scan_ends f l (p + k)
        intro g hg
        simp only [List.mem_cons] at hg
        rcases hg with rfl | hg
        · exact ⟨by simp, by simp; omega⟩
        · have := ih g hg; omega
theorem endOf_le (l : List Int) (f : Nat) : endOf (scan f l 0).1 ≤ l.length := by
  unfold endOf
  cases h : (scan f l 0).1.getLast? with
  | none => simp
  | some g => have := scan_ends f l 0 g (List.mem_of_mem_getLast? (by simp [h])); simpa using this.2

def store_Repair.f (l0 : List Int) : Option (List Int) :=
  match store_Read.f l0 with
  | some (_, n, _) => some (l0.take n.toNat)
  | none => none

set_option maxHeartbeats 4000000 in
set_option maxRecDepth 100000 in
theorem rep_is (A0 : Option Addr) (c0 : Nat) (l0 : List Int) (r : List Int) (w : World) (hg : GOK w) (hr0 : Kd.C (Kd.int .u8) w A0 l0.length l0) (hc0 : l0.length ≤ c0) (h : store_Repair.f l0 = some r) :
    Calls Tryd.prog 19 #[.slice A0 l0.length c0] w fun e w' => e = .returned (.slice A0 r.length r.length) ∧ Below w.heap.size w w' := by
  unfold store_Repair.f at h
  split at h
  · rename_i x1 n x3 hrd
    cases h
    have hn : n = ((endOf (scan (l0.length + 1) l0 0).1 : Nat) : Int) := by
      unfold store_Read.f at hrd
      split at hrd
      · cases hrd; rfl
      · cases hrd
    obtain ⟨k, hk⟩ : ∃ k, k = endOf (scan (l0.length + 1) l0 0).1 := ⟨_, rfl⟩
    rw [← hk] at hn
    have hle : k ≤ l0.length := by rw [hk]; exact endOf_le _ _
    subst hn
    rw [show (l0.take ((k : Int)).toNat).length = k by simp; omega]
    obtain ⟨L, hL⟩ : ∃ L, L = l0.length := ⟨_, rfl⟩
    have HRD := Aside0.mk hrd
    have HR0 := Aside0.mk hr0
    have HC0 := Aside0.mk hc0
    have HG := Aside0.mk hg
    clear hrd hr0 hc0 hg hk
    refine calls_of_wp Tryd.func19 rfl ?_
    simp only [Tryd.ntmps19, List.size_toArray, List.length_cons, List.length_nil, Nat.reduceAdd, Nat.reduceSub, Array.replicate_succ, Array.replicate_zero, List.push_toArray, List.append_toArray, List.nil_append, List.cons_append]
    have hc0 := HC0.out
    go_wp2_with (go_at_call 14; refine (store_Read.calls A0 c0 l0 x1 _ x3 _ HG.out HR0.out HC0.out HRD.out).mono ?_; rintro e w1 ⟨v1, rfl, ho1, hb1⟩; have HO1 := Aside0.mk ho1; have HB1 := Aside0.mk hb1; clear ho1 hb1)
    go_ret
    exact ⟨rfl, HB1.out⟩
  · cases h
theorem rep_pre {l0 r : List Int} (h : store_Repair.f l0 = some r) : ∃ k, k ≤ l0.length ∧ r = l0.take k := by
  unfold store_Repair.f at h
  split at h
  · rename_i x1 n x3 hrd
    cases h
    unfold store_Read.f at hrd
    split at hrd
    · cases hrd
      exact ⟨endOf (scan (l0.length + 1) l0 0).1, endOf_le _ _, by simp⟩
    · cases hrd
  · cases h
theorem store_Repair.calls (A0 : Option Addr) (c0 : Nat) (l0 : List Int) (r : List Int) (w : World) (hg : GOK w) (hr0 : Kd.C (Kd.int .u8) w A0 l0.length l0) (hc0 : l0.length ≤ c0) (h : store_Repair.f l0 = some r) :
    Calls Tryd.prog 19 #[.slice A0 l0.length c0] w fun e w' => ∃ A c, e = .returned (.slice A r.length c) ∧ r.length ≤ c ∧ Kd.C (Kd.int .u8) w' A r.length r ∧ Below w.heap.size w w' := by
  refine (rep_is A0 c0 l0 r w hg hr0 hc0 h).mono ?_
  rintro e w' ⟨rfl, hb⟩
  obtain ⟨k, hk, rfl⟩ := rep_pre h
  refine ⟨_, _, rfl, Nat.le_refl _, ?_, hb⟩
  have := Kd.C_take (m := k) (Kd.C_below hr0 hb) hk
  exact this
end Go.Proofs.YtkeegknadegaaaaDoor.Q
