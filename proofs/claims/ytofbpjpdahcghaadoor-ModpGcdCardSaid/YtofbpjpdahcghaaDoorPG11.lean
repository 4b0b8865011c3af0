/-
  ModpGcd: a greatest common divisor is monic and divides both; what it does to quotients and multiples (the row, the walk and the plain words), part 11 of 12 (packed by pack.py from texts of this session).
-/
import Derived.Test.YtofbpjpdahcghaaDoorPG1
import Derived.Test.YtofbpjpdahcghaaDoorPG3
import Derived.Test.YtofbpjpdahcghaaDoorPG4
import Derived.Test.YtofbpjpdahcghaaDoorPG5
import Derived.Test.YtofbpjpdahcghaaDoorPG6
import Derived.Test.YtofbpjpdahcghaaDoorPG7
import Derived.Test.YtofbpjpdahcghaaDoorPG8
import Derived.Test.YtofbpjpdahcghaaDoorPG9
import Derived.Test.YtofbpjpdahcghaaDoorPG10
import Derived.ProofKit
import Derived.OpenShut
import Derived.ShutString
import Derived.ChangeOld
import Derived.SizedLaws
import Derived.WideKeyPair
set_option maxRecDepth 100000
set_option maxHeartbeats 8000000
set_option linter.unusedVariables false
namespace Go.Proofs.YtofbpjpdahcghaaDoor.modpGcd
open Go.ChangeShapes Go.WideShapes Go.ChangeAt Go.RowKit Go.Proofs.YtofbpjpdahcghaaDoor.Q
set_option linter.unusedVariables false
theorem own : ownKnob Tryd.prog.godebug = none := by kernel_rfl
theorem laidOut : laidOutB Tryd.prog = true := by kernel_rfl
theorem lifted (os : Os) (started : os.Started) (H : Type) (enc : TypeId × Value → H) :
   ReturnsInHanded {} Tryd.checked os 5 .any (fun w args => (Rows.modpGcdSpec.pre enc Tryd.prog Tryd.f5 [] false w args ∧ laidMetH Tryd.prog Rows.modpGcdRow.laid w) ∧ sizedMet enc Tryd.prog Tryd.f5 (OpenSpec.ofChange Rows.modpGcdSpec) false w args)
     (Rows.modpGcdSpec.post enc Tryd.prog Tryd.f5 false true false false) := by
 refine returnsInHanded_of_change_and (C := Tryd.checked) (X := fun w _ => laidMetH Tryd.prog Rows.modpGcdRow.laid w) (fun _ _ _ hh h => h.of_heap hh) own started (by kernel_rfl) Tryd.func5
   (ChangeSpec.witness_at (enc := enc) (C := Tryd.checked) (os := os) (X := fun w _ => laidMetH Tryd.prog Rows.modpGcdRow.laid w) false (World.doorLaid Tryd.prog 600 os) #[.agg #[.int .u32 0, .slice none 0 0, .slice none 0 0, .slice none 0 0]] 8 rfl (by kernel_rfl) (by kernel_rfl) (by kernel_rfl) (by kernel_rfl) (by kernel_rfl) (door_met os _)) ?_
 intro W base args ds gs before hval0 hW hcnd hsz0 hL _
 have hg := gw_of_laid hL
 have hsz : (DataW.weightsEach Tryd.prog (Tryd.f5.params.toList ++ Rows.modpGcdSpec.plain.varTypes Tryd.prog) (ds ++ gs)).all (· ≤ reachBytes) = true := hsz0
 have hval : ∀ (j : Nat) t v, Tryd.f5.params[j]? = some t → args[j]? = some v → Value.okWide Tryd.prog W .any base t v := hval0
 have hW' := hW
 obtain ⟨p, q, hA0, hV, rfl, hfz, hnd⟩ := hW
 have hA : DataW.TrodAll enc Tryd.prog W 0 (fun _ => true) true Tryd.f5.params.toList args.toList ds p := hA0
 rw [Tryd.params5] at hA hval hsz
 obtain ⟨v0, vs0, d0, ds0, p0, q0, hargs, rfl, rfl, h0, r0⟩ := trodAll_cons hA
 obtain ⟨rfl, rfl, rfl⟩ := trodAll_nil r0
 obtain rfl : args = #[v0] := by cases args; simp_all
 obtain ⟨rfl, rfl⟩ := trodVars_none hV
 have k0 := h0
 have lt0 : ∀ x ∈ p0, x.block < W.heap.size := by obtain ⟨m, hm⟩ := k0; exact DataW.trod_lt m _ _ _ hm
 obtain ⟨a0, A1, A2, A3, c1, c2, c3, l1, l2, l3, rfl, ha0, ⟨g1, g2, g3⟩, w1, w2, w3⟩ := open_ask (hval 0 25 v0 rfl rfl) h0
 clear hA0 hval0 hsz0 hsz
 refine (Q.gcd_true a0 A1 A2 A3 c1 c2 c3 l1 l2 l3 ha0.1 (fun x hx => (w1 x hx).1) (fun x hx => (w2 x hx).1) (fun x hx => (w3 x hx).1) W hg g1 g2 g3).mono fun e W' ⟨he, bel⟩ => ?_
 subst he
 exact ⟨_, rfl, _, _, _, [], _, [], hW', trodAll_mk1 (shut_bool Tryd.underlying4 _), (trodAll_cons_mk (Below.trod laidOut (by kernel_rfl) (of_decide_eq_true (by kernel_rfl)) k0 bel lt0) trodAll_mk0), rfl, bel.frame _, fun h => by cases h⟩
theorem over : Rows.modpGcdRow.holds Tryd.pinned (OpenSpec.ofChange Rows.modpGcdSpec) :=
 OpenClaim.holds_of_wide 5 Tryd.f5 rfl rfl rfl rfl rfl rfl rfl ⟨rfl, rfl, rfl, rfl, rfl⟩ rfl rfl rfl rfl rfl (by kernel_rfl) Tryd.func5 (by kernel_rfl)
   (of_decide_eq_true (by kernel_rfl)) (by unfold Func.isWrapper; first | (rw [if_pos (by decide +kernel)]; kernel_rfl) | (rw [if_neg (by decide +kernel)]; exact ⟨rfl, rfl⟩))
   (fun os started H enc _ => lifted os started H enc)
end Go.Proofs.YtofbpjpdahcghaaDoor.modpGcd
namespace Go.Proofs.YtofbpjpdahcghaaDoor
open Go
theorem modpGcd_holds : Rows.ModpGcdSaid := modpGcd.over
end Go.Proofs.YtofbpjpdahcghaaDoor
