/-
  ModpReduce: what is made of polynomials with whole coefficients, and then taken modulo a prime, is made alike of what they are modulo it (the row, the walk and the plain words), part 12 of 13 (packed by pack.py from texts of this session).
-/
import Derived.Test.YtjbcnppbcomaiaaGreatDoorPR1
import Derived.Test.YtjbcnppbcomaiaaGreatDoorPR3
import Derived.Test.YtjbcnppbcomaiaaGreatDoorPR4
import Derived.Test.YtjbcnppbcomaiaaGreatDoorPR5
import Derived.Test.YtjbcnppbcomaiaaGreatDoorPR6
import Derived.Test.YtjbcnppbcomaiaaGreatDoorPR7
import Derived.Test.YtjbcnppbcomaiaaGreatDoorPR9
import Derived.Test.YtjbcnppbcomaiaaGreatDoorPR10
import Derived.Test.YtjbcnppbcomaiaaGreatDoorPR11
import Derived.ProofKit
import Derived.OpenShut
import Derived.ShutString
import Derived.ChangeOld
import Derived.SizedLaws
import Derived.WideKeyPair
set_option maxRecDepth 100000
set_option maxHeartbeats 8000000
set_option linter.unusedVariables false
namespace Go.Proofs.YtjbcnppbcomaiaaGreatDoor.modpReduce
open Go.ChangeShapes Go.WideShapes Go.ChangeAt Go.RowKit Go.Proofs.YtjbcnppbcomaiaaGreatDoor.Q
set_option linter.unusedVariables false
theorem own : ownKnob Tryz.prog.godebug = none := by kernel_rfl
theorem laidOut : laidOutB Tryz.prog = true := by kernel_rfl
theorem lifted (os : Os) (started : os.Started) (H : Type) (enc : TypeId × Value → H) :
   ReturnsInHanded {} Tryz.checked os 3 .any (fun w args => (Rows.modpReduceSpec.pre enc Tryz.prog Tryz.f3 [] false w args ∧ laidMetH Tryz.prog Rows.modpReduceRow.laid w) ∧ sizedMet enc Tryz.prog Tryz.f3 (OpenSpec.ofChange Rows.modpReduceSpec) false w args)
     (Rows.modpReduceSpec.post enc Tryz.prog Tryz.f3 false true false false) := by
 refine returnsInHanded_of_change_and (C := Tryz.checked) (X := fun w _ => laidMetH Tryz.prog Rows.modpReduceRow.laid w) (fun _ _ _ hh h => h.of_heap hh) own started (by kernel_rfl) Tryz.func3
   (ChangeSpec.witness_at (enc := enc) (C := Tryz.checked) (os := os) (X := fun w _ => laidMetH Tryz.prog Rows.modpReduceRow.laid w) false (World.doorLaid Tryz.prog 600 os) #[.slice none 0 0, .slice none 0 0, .int .u32 0] 8 rfl (by kernel_rfl) (by kernel_rfl) (by kernel_rfl) (by kernel_rfl) (by kernel_rfl) (door_met os _)) ?_
 intro W base args ds gs before hval0 hW hcnd hsz0 hL _
 have hg := gw_of_laid hL
 have hsz : (DataW.weightsEach Tryz.prog (Tryz.f3.params.toList ++ Rows.modpReduceSpec.plain.varTypes Tryz.prog) (ds ++ gs)).all (· ≤ reachBytes) = true := hsz0
 have hval : ∀ (j : Nat) t v, Tryz.f3.params[j]? = some t → args[j]? = some v → Value.okWide Tryz.prog W .any base t v := hval0
 have hW' := hW
 obtain ⟨p, q, hA0, hV, rfl, hfz, hnd⟩ := hW
 have hA : DataW.TrodAll enc Tryz.prog W 0 (fun _ => true) true Tryz.f3.params.toList args.toList ds p := hA0
 rw [Tryz.params3] at hA hval hsz
 obtain ⟨v0, vs0, d0, ds0, p0, q0, hargs, rfl, rfl, h0, r0⟩ := trodAll_cons hA
 obtain ⟨v1, vs1, d1, ds1, p1, q1, rfl, rfl, rfl, h1, r1⟩ := trodAll_cons r0
 obtain ⟨v2, vs2, d2, ds2, p2, q2, rfl, rfl, rfl, h2, r2⟩ := trodAll_cons r1
 obtain ⟨rfl, rfl, rfl⟩ := trodAll_nil r2
 obtain rfl : args = #[v0, v1, v2] := by cases args; simp_all
 obtain ⟨rfl, rfl⟩ := trodVars_none hV
 have k0 := h0
 have lt0 : ∀ x ∈ p0, x.block < W.heap.size := by obtain ⟨m, hm⟩ := k0; exact DataW.trod_lt m _ _ _ hm
 have k1 := h1
 have lt1 : ∀ x ∈ p1, x.block < W.heap.size := by obtain ⟨m, hm⟩ := k1; exact DataW.trod_lt m _ _ _ hm
 obtain ⟨A1, n1, c1, rfl⟩ := okWide_slice Tryz.underlying22 (hval 0 22 v0 rfl rfl)
 obtain ⟨A2, n2, c2, rfl⟩ := okWide_slice Tryz.underlying22 (hval 1 22 v1 rfl rfl)
 obtain ⟨l1, e1, g1, w1⟩ : ∃ l : List S56, l.length = n1 ∧ RV W (.slice A1 n1 c1) (.i l) ∧ ∀ x ∈ l, Limbs x.f1 := by
   obtain ⟨m, hm⟩ := h0
   exact Q.open_wholes (by simpa [Value.cells] using hm)
 obtain ⟨l2, e2, g2, w2⟩ : ∃ l : List S56, l.length = n2 ∧ RV W (.slice A2 n2 c2) (.i l) ∧ ∀ x ∈ l, Limbs x.f1 := by
   obtain ⟨m, hm⟩ := h1
   exact Q.open_wholes (by simpa [Value.cells] using hm)
 subst e1
 subst e2
 obtain ⟨a2, rfl, rfl, rfl, wa2⟩ := open_int Tryz.underlying23 (hval 2 23 v2 rfl rfl) h2
 have ha2 := wf_u32 wa2
 clear hA0 hval0 hsz0 hsz
 refine (Q.red_true a2 A1 A2 c1 c2 l1 l2 ha2.1 w1 w2 W hg g1 g2).mono fun e W' ⟨he, bel⟩ => ?_
 subst he
 exact ⟨_, rfl, _, _, _, [], _, [], hW', trodAll_mk1 (shut_bool Tryz.underlying4 _), (trodAll_cons_mk (Below.trod laidOut (by kernel_rfl) (of_decide_eq_true (by kernel_rfl)) k0 bel lt0) (trodAll_cons_mk (Below.trod laidOut (by kernel_rfl) (of_decide_eq_true (by kernel_rfl)) k1 bel lt1) (trodAll_cons_mk (shut_int Tryz.underlying23 wa2) trodAll_mk0))), rfl, bel.frame _, fun h => by cases h⟩
theorem over : Rows.modpReduceRow.holds Tryz.pinned (OpenSpec.ofChange Rows.modpReduceSpec) :=
 OpenClaim.holds_of_wide 3 Tryz.f3 rfl rfl rfl rfl rfl rfl rfl ⟨rfl, rfl, rfl, rfl, rfl⟩ rfl rfl rfl rfl rfl (by kernel_rfl) Tryz.func3 (by kernel_rfl)
   (of_decide_eq_true (by kernel_rfl)) (by unfold Func.isWrapper; first | (rw [if_pos (by decide +kernel)]; kernel_rfl) | (rw [if_neg (by decide +kernel)]; exact ⟨rfl, rfl⟩))
   (fun os started H enc _ => lifted os started H enc)
end Go.Proofs.YtjbcnppbcomaiaaGreatDoor.modpReduce
namespace Go.Proofs.YtjbcnppbcomaiaaGreatDoor
open Go
theorem modpReduce_holds : Rows.ModpReduceSaid := modpReduce.over
end Go.Proofs.YtjbcnppbcomaiaaGreatDoor
