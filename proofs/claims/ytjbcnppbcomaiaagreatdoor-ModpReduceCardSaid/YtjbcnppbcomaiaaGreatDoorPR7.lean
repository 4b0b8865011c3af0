/-
  ModpReduce: what is made of polynomials with whole coefficients, and then taken modulo a prime, is made alike of what they are modulo it (the row, the walk and the plain words), part 7 of 13 (packed by pack.py from texts of this session).
-/
import Derived.Test.YtjbcnppbcomaiaaGreatDoorPR1
import Derived.Test.YtjbcnppbcomaiaaGreatDoorPR2
import Derived.Deep.SlicePairs
import Derived.Lib.SmallJoins
import Derived.ChangeSlices
set_option maxRecDepth 100000
set_option maxHeartbeats 8000000
set_option linter.unusedVariables false
namespace Go.Proofs.YtjbcnppbcomaiaaGreatDoor.Q
open Go.RowKit Go.ChangeShapes Go.WideShapes Go.Deep Go.Proofs.YtjbcnppbcomaiaaGreatDoorW.PrintWords
set_option linter.unusedVariables false
set_option maxRecDepth 100000
theorem wf_u32 {x : Int} (h : (Lit.int .u32 x).wf = true) : 0 ≤ x ∧ x < 4294967296 := by
 have h2 : IntKind.u32.min ≤ x ∧ x ≤ IntKind.u32.max := by simpa [Lit.wf] using h
 have e1 : IntKind.u32.min = 0 := by decide
 have e2 : IntKind.u32.max = 4294967295 := by decide
 omega
theorem open_row {H : Type} {enc : TypeId × Value → H} {W : World} {fuel : Nat} {v : Value} {x : DataW H × List MemPlace} 
   (h : DataW.trod enc Tryz.prog W 0 (fun _ => true) true fuel 27 [v] = some x) : ∃ A c l, v = .slice A (l : List Int).length c ∧ CV W v l ∧ ∀ y ∈ l, 0 ≤ y ∧ y < 4294967296 := by
 rcases open_ints Tryz.underlying27 Tryz.underlying23 (by kernel_rfl) h with ⟨hcs, _⟩ | ⟨ad, len, cap, zs, hcs, _, hl, hm, hz, _, hcell, hwz⟩
 · obtain rfl : v = .slice none 0 0 := by simpa using hcs
   exact ⟨none, 0, [], rfl, CV_nil _, fun y hy => by simp at hy⟩
 · obtain rfl : v = .slice (some ad) len cap := by simpa using hcs
   obtain ⟨l, rfl, hr, hm2, hw, hc⟩ := ReadsInt.ofRowC (k := .u32) (w := W) (.inr ⟨ad, rfl, hl, hm, by simpa using hz, hcell, hwz⟩)
   exact ⟨some ad, cap, l, rfl, ⟨some ad, cap, rfl, hc, Kd.C_of_reads (d := (0 : Int)) (h1 := fun _ => rfl) hr⟩, fun y hy => wf_u32 (hw y hy)⟩
theorem open_wholes {H : Type} {enc : TypeId × Value → H} {W : World} {fuel : Nat} {a : Option Addr} {len cap : Nat} {x : DataW H × List MemPlace}
   (h : DataW.trod enc Tryz.prog W 0 (fun _ => true) true fuel 22 [.slice a len cap] = some x) : ∃ l0 : List S56, l0.length = len ∧ RV W (.slice a len cap) (.i l0) ∧ ∀ x ∈ l0, Limbs x.f1 := by
 rcases open_slice_pairs Tryz.underlying22 Tryz.underlying49 (by kernel_rfl) rfl rfl (by kernel_rfl) (by kernel_rfl) h with ⟨hcs, _⟩ | ⟨ad, len', cap', m, n, V0, V1, D0, D1, P0, P1, hcs, hb, hl, hm, hmm, hx, hi⟩
 · simp at hcs
   obtain ⟨rfl, rfl, rfl⟩ := hcs
   exact ⟨[], rfl, ⟨none, 0, rfl, Nat.le_refl _, rfl, by decide, fun h => by simp at h⟩, fun x hx => by simp at hx⟩
 · simp at hcs
   obtain ⟨rfl, rfl, rfl⟩ := hcs
   have hmc : m = cap := by simpa using hmm
   subst hmc
   have hex : ∀ i : Nat, ∃ x : S56, i < len → V0 i = .bool x.f0 ∧ (∃ A c, V1 i = .slice A x.f1.length c ∧ CV W (.slice A x.f1.length c) x.f1) ∧ Limbs x.f1 := fun i => by
     by_cases hil : i < len
     · obtain ⟨h0, h1, h2, h3⟩ := hi i (by omega)
       obtain ⟨b, e0, _⟩ := DataW.trod_bool Tryz.underlying4 h2
       obtain ⟨A, c, l, e1, hcv, hlm⟩ := Q.open_row h3
       simp only [List.cons.injEq, and_true] at e0
       exact ⟨⟨b, l⟩, fun _ => ⟨e0, ⟨A, c, e1, e1 ▸ hcv⟩, hlm⟩⟩
     · exact ⟨⟨false, []⟩, fun h => absurd h hil⟩
   obtain ⟨f, hf⟩ := Classical.axiomOfChoice hex
   refine ⟨(List.range len).map f, by simp, ⟨some ad, m, by simp, by simpa using hl, by simp, ?_, fun _ => ⟨ad, rfl, ?_⟩⟩, ?_⟩
   · rw [List.length_map, List.length_range]
     exact Nat.le_trans (Nat.le_trans hl hm) (by decide)
   · intro j p hj
     have hjl : j < len := by
       have := (List.getElem?_eq_some_iff.1 hj).1
       simpa using this
     obtain ⟨h0, h1, h2, h3⟩ := hi j (by omega)
     obtain ⟨e0, ⟨A, c, e1, hcv⟩, _⟩ := hf j hjl
     have hp : p = f j := by
       rw [List.getElem?_map, List.getElem?_range hjl] at hj
       exact (Option.some.inj hj).symm
     subst hp
     refine ⟨[.bool (f j).f0, .slice A (f j).f1.length c], rfl, K56_of hcv _, ?_⟩
     intro i u hu
     match i, hu with
     | 0, hu =>
       simp only [List.getElem?_cons_zero, Option.some.injEq] at hu
       rw [← hu, ← e0]
       exact h0
     | 1, hu =>
       simp only [List.getElem?_cons_succ, List.getElem?_cons_zero, Option.some.injEq] at hu
       rw [← hu, ← e1]
       exact h1
   · intro x hx
     obtain ⟨j, hj, rfl⟩ := List.mem_map.1 hx
     exact (hf j (List.mem_range.1 hj)).2.2
end Go.Proofs.YtjbcnppbcomaiaaGreatDoor.Q
