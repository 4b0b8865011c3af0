/-
  ModpValues: sums and products have at each number the sum, and the product, of the values; both stand whichever comes first (for every input), part 11 of 12 (packed by pack.py from texts of this session).
-/
import Derived.Test.YtofbpjpdahcghaaDoorPV1
import Derived.Test.YtofbpjpdahcghaaDoorPV3
import Derived.Test.YtofbpjpdahcghaaDoorPV4
import Derived.Test.YtofbpjpdahcghaaDoorPV5
import Derived.Test.YtofbpjpdahcghaaDoorPV6
import Derived.Test.YtofbpjpdahcghaaDoorPV7
import Derived.Test.YtofbpjpdahcghaaDoorPV8
import Derived.Test.YtofbpjpdahcghaaDoorPV9
import Derived.Test.YtofbpjpdahcghaaDoorPV10
import Derived.ProofKit
import Derived.OpenShut
import Derived.ShutString
import Derived.ChangeOld
import Derived.SizedLaws
import Derived.WideKeyPair
namespace Go.Proofs.YtofbpjpdahcghaaDoor.modpValues
open Go.ChangeShapes Go.WideShapes Go.ChangeAt Go.RowKit Go.Proofs.YtofbpjpdahcghaaDoor.Q
set_option linter.unusedVariables false
theorem own : ownKnob Tryd.prog.godebug = none := by kernel_rfl
theorem laidOut : laidOutB Tryd.prog = true := by kernel_rfl
set_option maxRecDepth 100000 in
theorem lifted (os : Os) (started : os.Started) (H : Type) (enc : TypeId × Value → H) :
   ReturnsInHanded {} Tryd.checked os 3 .any (fun w args => (Rows.modpValuesSpec.pre enc Tryd.prog Tryd.f3 [] false w args ∧ laidMetH Tryd.prog Rows.modpValuesRow.laid w) ∧ sizedMet enc Tryd.prog Tryd.f3 (OpenSpec.ofChange Rows.modpValuesSpec) false w args)
     (Rows.modpValuesSpec.post enc Tryd.prog Tryd.f3 false true false false) := by
 refine returnsInHanded_of_change_and (C := Tryd.checked) (X := fun w _ => laidMetH Tryd.prog Rows.modpValuesRow.laid w) (fun _ _ _ hh h => h.of_heap hh) own started (by kernel_rfl) Tryd.func3
   (ChangeSpec.witness_at (enc := enc) (C := Tryd.checked) (os := os) (X := fun w _ => laidMetH Tryd.prog Rows.modpValuesRow.laid w) false (World.doorLaid Tryd.prog 600 os) #[.agg #[.int .u32 0, .slice none 0 0, .slice none 0 0, .slice none 0 0], .int .u32 0] 8 rfl (by kernel_rfl) (by kernel_rfl) (by kernel_rfl) (by kernel_rfl) (by kernel_rfl) (door_met os _)) ?_
 intro W base args ds gs before hval0 hW hcnd hsz0 hL _
 have hg := gw_of_laid hL
 have hsz : (DataW.weightsEach Tryd.prog (Tryd.f3.params.toList ++ Rows.modpValuesSpec.plain.varTypes Tryd.prog) (ds ++ gs)).all (· ≤ reachBytes) = true := hsz0
 have hval : ∀ (j : Nat) t v, Tryd.f3.params[j]? = some t → args[j]? = some v → Value.okWide Tryd.prog W .any base t v := hval0
 have hW' := hW
 obtain ⟨p, q, hA0, hV, rfl, hfz, hnd⟩ := hW
 have hA : DataW.TrodAll enc Tryd.prog W 0 (fun _ => true) true Tryd.f3.params.toList args.toList ds p := hA0
 rw [Tryd.params3] at hA hval hsz
 obtain ⟨v0, vs0, d0, ds0, p0, q0, hargs, rfl, rfl, h0, r0⟩ := trodAll_cons hA
 obtain ⟨v1, vs1, d1, ds1, p1, q1, rfl, rfl, rfl, h1, r1⟩ := trodAll_cons r0
 obtain ⟨rfl, rfl, rfl⟩ := trodAll_nil r1
 obtain rfl : args = #[v0, v1] := by cases args; simp_all
 obtain ⟨rfl, rfl⟩ := trodVars_none hV
 have k0 := h0
 have lt0 : ∀ x ∈ p0, x.block < W.heap.size := by obtain ⟨m, hm⟩ := k0; exact DataW.trod_lt m _ _ _ hm
 obtain ⟨a0, A1, A2, A3, c1, c2, c3, l1, l2, l3, rfl, ha0, ⟨g1, g2, g3⟩, w1, w2, w3⟩ := open_ask (hval 0 25 v0 rfl rfl) h0
 obtain ⟨a1, rfl, rfl, rfl, wa1⟩ := open_int Tryd.underlying22 (hval 1 22 v1 rfl rfl) h1
 have ha1 := wf_u32 wa1
 clear hA0 hval0 hsz0 hsz
 refine (Q.values_true a0 A1 A2 A3 c1 c2 c3 l1 l2 l3 a1 ha0.1 (fun x hx => (w1 x hx).1) (fun x hx => (w2 x hx).1) ha1.1 ha1.2 W hg g1 g2 g3).mono fun e W' ⟨he, bel⟩ => ?_
 subst he
 exact ⟨_, rfl, _, _, _, [], _, [], hW', trodAll_mk1 (shut_bool Tryd.underlying4 _), (trodAll_cons_mk (Below.trod laidOut (by kernel_rfl) (of_decide_eq_true (by kernel_rfl)) k0 bel lt0) (trodAll_cons_mk (shut_int Tryd.underlying22 wa1) trodAll_mk0)), rfl, bel.frame _, fun h => by cases h⟩
theorem over : Rows.modpValuesRow.holds Tryd.pinned (OpenSpec.ofChange Rows.modpValuesSpec) :=
 OpenClaim.holds_of_wide 3 Tryd.f3 rfl rfl rfl rfl rfl rfl rfl ⟨rfl, rfl, rfl, rfl, rfl⟩ rfl rfl rfl rfl rfl (by kernel_rfl) Tryd.func3 (by kernel_rfl)
   (of_decide_eq_true (by kernel_rfl)) (by unfold Func.isWrapper; first | (rw [if_pos (by decide +kernel)]; kernel_rfl) | (rw [if_neg (by decide +kernel)]; exact ⟨rfl, rfl⟩))
   (fun os started H enc _ => lifted os started H enc)
end Go.Proofs.YtofbpjpdahcghaaDoor.modpValues
namespace Go.Proofs.YtofbpjpdahcghaaDoor
open Go
theorem modpValues_holds : Rows.ModpValuesSaid := modpValues.over
end Go.Proofs.YtofbpjpdahcghaaDoor
