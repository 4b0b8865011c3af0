-- Written by a program of this session (a patched print) for this claim; Lean checks it.
import Derived.Test.YtplkofflhacehaaQ0
import Derived.WalkSpells
namespace Go.Proofs.Ytplkofflhacehaa.Q
open Go.RowKit Go.Proofs.YtplkofflhacehaaW.PrintWords Go.Proofs.YtplkofflhacehaaW.PrintLast Go.Proofs.YtplkofflhacehaaW.PrintMore
attribute [local go_sem] max2_int min2_int max_two min_two max_three min_three max_four min_four   -- for this text's walks alone
set_option linter.unusedVariables false
set_option linter.unusedSimpArgs false

--EXT Derived.WalkSpells
/-! ### slices_Clone_uint32_uint32: function 36, by hand -/
def slices_Clone_uint32_uint32.f (l0 : List Int) : Option (List Int) := if l0.length < 35184372088832 then some l0 else none
set_option maxHeartbeats 2000000 in
set_option maxRecDepth 100000 in
theorem slices_Clone_uint32_uint32.calls (A0 : Option Addr) (c0 : Nat) (l0 : List Int) (r : List Int) (w : World) (hr0 : Kd.C (Kd.int .u32) w A0 l0.length l0) (hc0 : l0.length ≤ c0) (h : slices_Clone_uint32_uint32.f l0 = some r) :
    Calls Try.prog 36 #[.slice A0 l0.length c0] w fun e w' => ∃ v0_ : Value, e = .returned (v0_) ∧ Kd.R (Kd.int .u32) 37 w' w.heap.size (fun _ => True) v0_ r ∧ Below w.heap.size w w' := by
  have HR0 := Aside0.mk hr0
  have HC0 := Aside0.mk hc0
  clear hr0 hc0
  unfold slices_Clone_uint32_uint32.f at h
  by_cases hl : l0.length < 35184372088832
  · rw [if_pos hl] at h
    obtain rfl := Option.some.inj h
    clear h
    have q22 : ∀ (w : World) (a : Option Addr) (n c n' c' : Nat), (binOp .eql 22 (.slice a n c) (.slice none n' c')).run Try.prog w = .ok (.bool a.isNone) w := fun w a n c n' c' => Lib.run_eql_slice_nil w _ _ a n c n' c' Try.underlying22
    cases A0 with
    | none =>
      have hn : l0 = [] := by
        rcases l0 with _ | ⟨x, l⟩
        · rfl
        · obtain ⟨ad, h1, _⟩ := HR0.out.2.2 (by simp)
          cases h1
      go_enter Try.func36, Try.ntmps36
      go_wp2
      go_ret
      exact ⟨_, rfl, by rw [hn]; exact Kd.R_nil _ _ _ _ _, Below.refl _ _⟩
    | some a =>
      have HL := Aside0.mk hl
      clear hl
      have HB := Aside0.mk (Below.refl w.heap.size w)
      go_enter Try.func36, Try.ntmps36
      go_wp2_with (first | ((with_reducible refine gate_dst (N := 5) rfl ?_); refine Kd.R_lit (Kd.int .u32) _ 37 ?hg (N := 5) ?hd (xs := ([] : List Int)) (inner := []) (ok := fun _ => True) (okp := fun _ => True) ?hr ?hp (fun _ hk => hk) trivial (Below.refl _ _) (Nat.le_refl _) (by simp) ?_; (case hd => rfl); (case hg => rfl); (case hr => first | (go_simp; done) | (go_simp; rfl)); (case hp => exact (Reps.none _ _)); intro v1 w1 ho1 hb1 hg_ hnew_; clear hg_ hnew_; have HO1 := Aside0.mk ho1; have HB1 := Aside0.mk hb1; clear ho1 hb1) | ((with_reducible refine gate_builtin (b := .append) (xs := #[.tmp 5, .tmp 6]) rfl ?_); at_builtin; refine Kd.R_append_row (Value.int .u32) 0 (w0 := w) w.heap.size rfl (.tmp 5) (.tmp 6) 22 37 (.int .u32 0) 4 rfl Try.underlying22 info37 rfl (by decide) _ [] l0 (some a) l0.length c0 (fun _ => True) rfl rfl (fun _ _ => trivial) HO1.out (Kd.C_below HR0.out HB1.out) HB1.out (HB1.out.size) (by have := HL.out; simp; omega) ?_; intro v2 w2 ho2 hb2 hg2 _; have HO2 := Aside0.mk ho2; have HB2 := Aside0.mk hb2; clear ho2 hb2 hg2))
      go_ret
      exact ⟨_, rfl, HO2.out, HB2.out⟩
  · rw [if_neg hl] at h
    exact absurd h (by simp)

end Go.Proofs.Ytplkofflhacehaa.Q
