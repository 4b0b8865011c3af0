/-
  ModpPowers: the power by a sum of exponents is the product of both powers, modulo the polynomial; by 0 it is 1, by 1 the rest; and of a product it is the product of the powers (the row, the walk and the plain words), part 6 of 12 (packed by pack.py from texts of this session).
-/
import Derived.Test.YtofbpjpdahcghaaDoorPP1
import Derived.Test.YtofbpjpdahcghaaDoorPP2
import Derived.Lib.SmallJoins
import Derived.ChangeSlices
set_option maxRecDepth 100000
set_option maxHeartbeats 8000000
set_option linter.unusedVariables false
namespace Go.Proofs.YtofbpjpdahcghaaDoor.Q
open Go.RowKit Go.ChangeShapes Go.WideShapes Go.Deep Go.Proofs.YtofbpjpdahcghaaDoorW.PrintWords
set_option linter.unusedVariables false
set_option maxRecDepth 100000
theorem wf_u32 {x : Int} (h : (Lit.int .u32 x).wf = true) : 0 ≤ x ∧ x < 4294967296 := by
 have h2 : IntKind.u32.min ≤ x ∧ x ≤ IntKind.u32.max := by simpa [Lit.wf] using h
 have e1 : IntKind.u32.min = 0 := by decide
 have e2 : IntKind.u32.max = 4294967295 := by decide
 omega
theorem open_row {H : Type} {enc : TypeId × Value → H} {W : World} {fuel : Nat} {v : Value} {x : DataW H × List MemPlace} 
   (h : DataW.trod enc Tryd.prog W 0 (fun _ => true) true fuel 23 [v] = some x) : ∃ A c l, v = .slice A (l : List Int).length c ∧ CV W v l ∧ ∀ y ∈ l, 0 ≤ y ∧ y < 4294967296 := by
 rcases open_ints Tryd.underlying23 Tryd.underlying22 (by kernel_rfl) h with ⟨hcs, _⟩ | ⟨ad, len, cap, zs, hcs, _, hl, hm, hz, _, hcell, hwz⟩
 · obtain rfl : v = .slice none 0 0 := by simpa using hcs
   exact ⟨none, 0, [], rfl, CV_nil _, fun y hy => by simp at hy⟩
 · obtain rfl : v = .slice (some ad) len cap := by simpa using hcs
   obtain ⟨l, rfl, hr, hm2, hw, hc⟩ := ReadsInt.ofRowC (k := .u32) (w := W) (.inr ⟨ad, rfl, hl, hm, by simpa using hz, hcell, hwz⟩)
   exact ⟨some ad, cap, l, rfl, ⟨some ad, cap, rfl, hc, Kd.C_of_reads (d := (0 : Int)) (h1 := fun _ => rfl) hr⟩, fun y hy => wf_u32 (hw y hy)⟩
theorem open_ask {H : Type} {enc : TypeId × Value → H} {W : World} {r : Reach} {b0 : Nat} {v : Value} {d : DataW H} {p : List MemPlace}
   (hv : Value.okWide Tryd.prog W r b0 25 v) (h : DataW.Trod enc Tryd.prog W 0 (fun _ => true) true 25 v d p) : ∃ (a0 : Int) (A1 A2 A3 : Option Addr) (c1 c2 c3 : Nat) (l1 l2 l3 : List Int),
     v = .agg #[.int .u32 a0, .slice A1 l1.length c1, .slice A2 l2.length c2, .slice A3 l3.length c3] ∧ (0 ≤ a0 ∧ a0 < 4294967296) ∧
     (CV W (.slice A1 l1.length c1) l1 ∧ CV W (.slice A2 l2.length c2) l2 ∧ CV W (.slice A3 l3.length c3) l3) ∧
     (∀ y ∈ l1, 0 ≤ y ∧ y < 4294967296) ∧ (∀ y ∈ l2, 0 ≤ y ∧ y < 4294967296) ∧ (∀ y ∈ l3, 0 ≤ y ∧ y < 4294967296) := by
 obtain ⟨v0, v1, v2, v3, y0, y1, y2, y3, n, rfl, _, _, h0, h1, h2, h3⟩ := Go.Joins.open_agg4 Tryd.underlying25 (by kernel_rfl) (by kernel_rfl) hv h
 obtain ⟨a0, e0, _, w0⟩ := DataW.trod_int Tryd.underlying22 h0
 obtain rfl : v0 = .int .u32 a0 := by simpa using e0
 obtain ⟨A1, c1, l1, rfl, r1, w1⟩ := open_row h1
 obtain ⟨A2, c2, l2, rfl, r2, w2⟩ := open_row h2
 obtain ⟨A3, c3, l3, rfl, r3, w3⟩ := open_row h3
 exact ⟨a0, A1, A2, A3, c1, c2, c3, l1, l2, l3, rfl, wf_u32 w0, ⟨r1, r2, r3⟩, w1, w2, w3⟩
end Go.Proofs.YtofbpjpdahcghaaDoor.Q
