/-
  StoreBack in plain words: entries that are appended are read as they were, in order; nothing is left.
-/
import Derived.Test.YtkeegknadegaaaaDoorQ12
import Derived.Test.YtkeegknadegaaaaDoorLHead
import Derived.Test.YtkeegknadegaaaaDoorLMade
import Derived.Test.YtkeegknadegaaaaDoorRows
import Derived.Test.YtkeegknadegaaaaDoorHLaid
import Derived.Test.YtkeegknadegaaaaDoorHRow24
import Derived.WalkKit
import Derived.ProofKit
import Derived.OpenShut
import Derived.ShutString
import Derived.ChangeOld
import Derived.Below
import Derived.SizedLaws
import Derived.WideKeyPair
import Derived.Test.YtkeegknadegaaaaDoorWSized
import Derived.Test.YtkeegknadegaaaaDoorTie
import Derived.Test.YtkeegknadegaaaaDoorCards
import Derived.SevenTiedAt
namespace Go.Proofs.YtkeegknadegaaaaDoor.Q
open Go.RowKit Go.Proofs.YtkeegknadegaaaaDoor.S Go.Proofs.YtkeegknadegaaaaDoorW.PrintWords Go.Proofs.YtkeegknadegaaaaDoorW.PrintLast Go.Proofs.YtkeegknadegaaaaDoorW.PrintMore
set_option linter.unusedVariables false

theorem back_pure (l0 : List S24) : zigguratlaw30_StoreBack.f 100 l0 = some true := by
  obtain ⟨m, h1, h2, h3, h4⟩ := made_is l0 12 (by omega) 100 (by omega)
  have hlen := short_len m h3
  have hb := logOf_bytes m h2
  unfold zigguratlaw30_StoreBack.f
  rw [head_true 98]
  simp only [Option.bind_some]
  rw [show (12 : Int) = ((12 : Nat) : Int) from rfl, h1]
  simp only [Option.bind_some]
  rw [written_is m h2 (by omega) (by omega) 100 (by omega)]
  simp only [Option.bind_some]
  rw [read_is hb (by omega), readL_whole m h2]
  simp only [Option.bind_some]
  rw [if_pos trivial, if_pos trivial, if_pos trivial, if_pos trivial, same_self m 100 (by omega) (by omega)]
  simp only [Option.bind_some]
  rw [if_pos trivial, repair_is hb (by omega), readL_whole m h2]
  simp
end Go.Proofs.YtkeegknadegaaaaDoor.Q
/-
  StoreBack: the row, of the function itself.
-/
namespace Go.Proofs.YtkeegknadegaaaaDoor.storeBack
open Go.ChangeShapes Go.WideShapes Go.ChangeAt Go.RowKit Go.Proofs.YtkeegknadegaaaaDoor.Q
open Go.ChangeMaps (open_string shut_string)
open Go.WideMaps (ArrKey open_pair shut_pair)
set_option linter.unusedVariables false
theorem own : ownKnob Tryd.prog.godebug = none := by kernel_rfl
theorem laidOut : laidOutB Tryd.prog = true := by kernel_rfl
set_option maxRecDepth 100000 in
theorem lifted (os : Os) (started : os.Started) (H : Type) (enc : TypeId × Value → H) :
    ReturnsInHanded {} Tryd.checked os 4 .any (fun w args => (Rows.storeBackSpec.pre enc Tryd.prog Tryd.f4 [] false w args ∧ laidMetH Tryd.prog Rows.storeBackRow.laid w) ∧ sizedMet enc Tryd.prog Tryd.f4 (OpenSpec.ofChange Rows.storeBackSpec) false w args)
      (Rows.storeBackSpec.post enc Tryd.prog Tryd.f4 false true false false) := by
  refine returnsInHanded_of_change_and (C := Tryd.checked) (X := fun w _ => laidMetH Tryd.prog Rows.storeBackRow.laid w) (fun _ _ _ hh h => h.of_heap hh) own started (by kernel_rfl) Tryd.func4
    (ChangeSpec.witness_at (enc := enc) (C := Tryd.checked) (os := os) (X := fun w _ => laidMetH Tryd.prog Rows.storeBackRow.laid w) false (laidWorld os) #[.slice none 0 0] 8 rfl (by kernel_rfl) (by kernel_rfl) (by kernel_rfl) (by kernel_rfl) (by kernel_rfl) (laidWorld_met os _)) ?_
  intro W base args ds gs before hval0 hW hcnd hsz0 hL _
  have hg := gok_of_laid hL
  have hsz : (DataW.weightsEach Tryd.prog (Tryd.f4.params.toList ++ Rows.storeBackSpec.plain.varTypes Tryd.prog) (ds ++ gs)).all (· ≤ reachBytes) = true := hsz0
  have hval : ∀ (j : Nat) t v, Tryd.f4.params[j]? = some t → args[j]? = some v → Value.okWide Tryd.prog W .any base t v := hval0
  have hW' := hW
  obtain ⟨p, q, hA0, hV, rfl, hfz, hnd⟩ := hW
  have hA : DataW.TrodAll enc Tryd.prog W 0 (fun _ => true) true Tryd.f4.params.toList args.toList ds p := hA0
  rw [Tryd.params4] at hA hval hsz
  obtain ⟨v0, vs0, d0, ds0, p0, q0, hargs, rfl, rfl, h0, r0⟩ := trodAll_cons hA
  obtain ⟨rfl, rfl, rfl⟩ := trodAll_nil r0
  obtain rfl : args = #[v0] := by cases args; simp_all
  obtain ⟨rfl, rfl⟩ := trodVars_none hV
  obtain ⟨a0, len0, cap0, rfl⟩ := okWide_slice Tryd.underlying29 (hval 0 29 v0 rfl rfl)
  have k0 := h0
  have lt0 : ∀ x ∈ p0, x.block < W.heap.size := by obtain ⟨m, hm⟩ := k0; exact DataW.trod_lt m _ _ _ hm
  obtain ⟨l0, hr0, rfl, hc0⟩ : ∃ l0 : List S24, Go.Proofs.YtkeegknadegaaaaDoorW.PrintWords.Kd.C k24 W a0 len0 l0 ∧ l0.length = len0 ∧ len0 ≤ cap0 := by
    obtain ⟨fuel, hf⟩ := h0
    exact open_entries (by simpa [Value.cells] using hf)
  clear hA0 hval0 hsz0 hsz
  obtain ⟨k, h⟩ := (⟨100, Q.back_pure l0⟩ : ∃ k, Q.zigguratlaw30_StoreBack.f k l0 = some true)
  refine (Q.zigguratlaw30_StoreBack.calls k _ _ l0 true W hr0 hc0 hg h).mono fun e W' ⟨he, bel⟩ => ?_
  subst he
  exact ⟨_, rfl, _, _, _, [], _, [], hW', trodAll_mk1 (shut_bool Tryd.underlying4 _), (trodAll_cons_mk (Below.trod laidOut (by kernel_rfl) (of_decide_eq_true (by kernel_rfl)) k0 bel lt0) trodAll_mk0), rfl, bel.frame _, fun h => by cases h⟩
theorem over : Rows.storeBackRow.holds Tryd.pinned (OpenSpec.ofChange Rows.storeBackSpec) :=
  OpenClaim.holds_of_wide 4 Tryd.f4 rfl rfl rfl rfl rfl rfl rfl ⟨rfl, rfl, rfl, rfl, rfl⟩ rfl rfl rfl rfl rfl (by kernel_rfl) Tryd.func4 (by kernel_rfl)
    (of_decide_eq_true (by kernel_rfl)) (by unfold Func.isWrapper; first | (rw [if_pos (by decide +kernel)]; kernel_rfl) | (rw [if_neg (by decide +kernel)]; exact ⟨rfl, rfl⟩))
    (fun os started H enc _ => lifted os started H enc)
end Go.Proofs.YtkeegknadegaaaaDoor.storeBack
namespace Go.Proofs.YtkeegknadegaaaaDoor
open Go
/-- The row, under a short name. -/
theorem storeBack_holds : Rows.StoreBackSaid := storeBack.over
end Go.Proofs.YtkeegknadegaaaaDoor
/-
  StoreBack: the tied card.
-/
namespace Go.Proofs.YtkeegknadegaaaaDoor
open Go
theorem storeBack_plainParams : ∀ t ∈ Tryd.f4.params.toList, Tryd.prog.wantsStandIn t = false := by
  rw [Tryd.params4]
  intro t ht
  simp only [List.mem_cons, List.not_mem_nil, or_false] at ht
  first
    | (rcases ht with rfl | rfl | rfl <;> kernel_rfl)
    | (rcases ht with rfl | rfl <;> kernel_rfl)
    | (subst ht; kernel_rfl)
theorem storeBack_card : Rows.StoreBackCardSaid :=
  Claim7.holds_tied_plain_at .later [] [.handle] true (true, "34bdef4e9bffb480d87468241b17d7559861034fec9fdb17c8b41cbaa0e36c65") true
    storeBack_holds (fun _ h => by cases h) (by kernel_rfl) (fun _ h => by cases h) storeBack_row_tie rfl ⟨rfl, rfl⟩ (by kernel_rfl) rfl
    (fun f fn hf hfn => by
      obtain rfl : f = 4 := Option.some.inj ((show Tryd.prog.funcNamed "ziggurat/zigguratlaw30.StoreBack" = some 4 by kernel_rfl).symm.trans hf) |>.symm
      obtain rfl : fn = Tryd.f4 := (Option.some.inj (Tryd.func4.symm.trans hfn)).symm
      exact ⟨by kernel_rfl, fun j t ht => storeBack_plainParams t (List.mem_of_getElem? (l := Tryd.f4.params.toList) (i := j) (by simpa using ht))⟩)
    (by kernel_rfl)
#print axioms storeBack_card
end Go.Proofs.YtkeegknadegaaaaDoor
