/-
  ModpPowers: the power by a sum of exponents is the product of both powers, modulo the polynomial; by 0 it is 1, by 1 the rest; and of a product it is the product of the powers (the row, the walk and the plain words), part 11 of 12 (packed by pack.py from texts of this session).
-/
import Derived.Test.YtofbpjpdahcghaaDoorPP1
import Derived.Test.YtofbpjpdahcghaaDoorPP3
import Derived.Test.YtofbpjpdahcghaaDoorPP4
import Derived.Test.YtofbpjpdahcghaaDoorPP5
import Derived.Test.YtofbpjpdahcghaaDoorPP6
import Derived.Test.YtofbpjpdahcghaaDoorPP7
import Derived.Test.YtofbpjpdahcghaaDoorPP8
import Derived.Test.YtofbpjpdahcghaaDoorPP9
import Derived.Test.YtofbpjpdahcghaaDoorPP10
import Derived.ProofKit
import Derived.OpenShut
import Derived.ShutString
import Derived.ChangeOld
import Derived.SizedLaws
import Derived.WideKeyPair
set_option maxRecDepth 100000
set_option maxHeartbeats 8000000
set_option linter.unusedVariables false
namespace Go.Proofs.YtofbpjpdahcghaaDoor.modpPowers
open Go.ChangeShapes Go.WideShapes Go.ChangeAt Go.RowKit Go.Proofs.YtofbpjpdahcghaaDoor.Q
set_option linter.unusedVariables false
theorem own : ownKnob Tryd.prog.godebug = none := by kernel_rfl
theorem laidOut : laidOutB Tryd.prog = true := by kernel_rfl
theorem lifted (os : Os) (started : os.Started) (H : Type) (enc : TypeId × Value → H) :
   ReturnsInHanded {} Tryd.checked os 6 .any (fun w args => (Rows.modpPowersSpec.pre enc Tryd.prog Tryd.f6 [] false w args ∧ laidMetH Tryd.prog Rows.modpPowersRow.laid w) ∧ sizedMet enc Tryd.prog Tryd.f6 (OpenSpec.ofChange Rows.modpPowersSpec) false w args)
     (Rows.modpPowersSpec.post enc Tryd.prog Tryd.f6 false true false false) := by
 refine returnsInHanded_of_change_and (C := Tryd.checked) (X := fun w _ => laidMetH Tryd.prog Rows.modpPowersRow.laid w) (fun _ _ _ hh h => h.of_heap hh) own started (by kernel_rfl) Tryd.func6
   (ChangeSpec.witness_at (enc := enc) (C := Tryd.checked) (os := os) (X := fun w _ => laidMetH Tryd.prog Rows.modpPowersRow.laid w) false (World.doorLaid Tryd.prog 600 os) #[.agg #[.int .u32 0, .slice none 0 0, .slice none 0 0, .slice none 0 0], .slice none 0 0] 8 rfl (by kernel_rfl) (by kernel_rfl) (by kernel_rfl) (by kernel_rfl) (by kernel_rfl) (door_met os _)) ?_
 intro W base args ds gs before hval0 hW hcnd hsz0 hL _
 have hg := gw_of_laid hL
 have hsz : (DataW.weightsEach Tryd.prog (Tryd.f6.params.toList ++ Rows.modpPowersSpec.plain.varTypes Tryd.prog) (ds ++ gs)).all (· ≤ reachBytes) = true := hsz0
 have hval : ∀ (j : Nat) t v, Tryd.f6.params[j]? = some t → args[j]? = some v → Value.okWide Tryd.prog W .any base t v := hval0
 have hW' := hW
 obtain ⟨p, q, hA0, hV, rfl, hfz, hnd⟩ := hW
 have hA : DataW.TrodAll enc Tryd.prog W 0 (fun _ => true) true Tryd.f6.params.toList args.toList ds p := hA0
 rw [Tryd.params6] at hA hval hsz
 obtain ⟨v0, vs0, d0, ds0, p0, q0, hargs, rfl, rfl, h0, r0⟩ := trodAll_cons hA
 obtain ⟨v1, vs1, d1, ds1, p1, q1, rfl, rfl, rfl, h1, r1⟩ := trodAll_cons r0
 obtain ⟨rfl, rfl, rfl⟩ := trodAll_nil r1
 obtain rfl : args = #[v0, v1] := by cases args; simp_all
 obtain ⟨rfl, rfl⟩ := trodVars_none hV
 have k0 := h0
 have lt0 : ∀ x ∈ p0, x.block < W.heap.size := by obtain ⟨m, hm⟩ := k0; exact DataW.trod_lt m _ _ _ hm
 obtain ⟨a0, A1, A2, A3, c1, c2, c3, l1, l2, l3, rfl, ha0, ⟨g1, g2, g3⟩, w1, w2, w3⟩ := open_ask (hval 0 25 v0 rfl rfl) h0
 have k1 := h1
 have lt1 : ∀ x ∈ p1, x.block < W.heap.size := by obtain ⟨m, hm⟩ := k1; exact DataW.trod_lt m _ _ _ hm
 obtain ⟨ax, lenx, capx, rfl⟩ := okWide_slice Tryd.underlying23 (hval 1 23 v1 rfl rfl)
 obtain ⟨A4, c4, l4, e4, g4, w4⟩ : ∃ A c l, (.slice ax lenx capx : Value) = .slice A (l : List Int).length c ∧ CV W (.slice ax lenx capx) l ∧ ∀ y ∈ l, 0 ≤ y ∧ y < 4294967296 := by
   obtain ⟨m, hm⟩ := h1
   exact Q.open_row (by simpa [Value.cells] using hm)
 rw [e4] at g4 k1 hW' hval ⊢
 clear hA0 hval0 hsz0 hsz
 refine (Q.pow_true a0 A1 A2 A3 A4 c1 c2 c3 c4 l1 l2 l3 l4 ha0.1 (fun x hx => (w1 x hx).1) (fun x hx => (w2 x hx).1) w3 w4 W hg g1 g2 g3 g4).mono fun e W' ⟨he, bel⟩ => ?_
 subst he
 exact ⟨_, rfl, _, _, _, [], _, [], hW', trodAll_mk1 (shut_bool Tryd.underlying4 _), (trodAll_cons_mk (Below.trod laidOut (by kernel_rfl) (of_decide_eq_true (by kernel_rfl)) k0 bel lt0) (trodAll_cons_mk (Below.trod laidOut (by kernel_rfl) (of_decide_eq_true (by kernel_rfl)) k1 bel lt1) trodAll_mk0)), rfl, bel.frame _, fun h => by cases h⟩
theorem over : Rows.modpPowersRow.holds Tryd.pinned (OpenSpec.ofChange Rows.modpPowersSpec) :=
 OpenClaim.holds_of_wide 6 Tryd.f6 rfl rfl rfl rfl rfl rfl rfl ⟨rfl, rfl, rfl, rfl, rfl⟩ rfl rfl rfl rfl rfl (by kernel_rfl) Tryd.func6 (by kernel_rfl)
   (of_decide_eq_true (by kernel_rfl)) (by unfold Func.isWrapper; first | (rw [if_pos (by decide +kernel)]; kernel_rfl) | (rw [if_neg (by decide +kernel)]; exact ⟨rfl, rfl⟩))
   (fun os started H enc _ => lifted os started H enc)
end Go.Proofs.YtofbpjpdahcghaaDoor.modpPowers
namespace Go.Proofs.YtofbpjpdahcghaaDoor
open Go
theorem modpPowers_holds : Rows.ModpPowersSaid := modpPowers.over
end Go.Proofs.YtofbpjpdahcghaaDoor
