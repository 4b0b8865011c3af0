/-
  An argument that is a slice of entries, and one that is an entry, opened.
-/
import Derived.Test.YtkeegknadegaaaaDoorQ0
import Derived.Deep.SlicePairs
import Derived.Lib.SmallJoins
namespace Go.Proofs.YtkeegknadegaaaaDoor.Q
open Go.RowKit Go.ChangeShapes Go.WideShapes Go.Deep Go.Proofs.YtkeegknadegaaaaDoorW.PrintWords
set_option linter.unusedVariables false
set_option maxRecDepth 100000

def strV : Value → ByteArray
  | .string s => s
  | _ => ⟨#[]⟩
/-- A slice of entries that came in. -/
theorem open_entries {H : Type} {enc : TypeId × Value → H} {W : World} {fuel : Nat} {a : Option Addr} {len cap : Nat} {x : DataW H × List MemPlace}
    (h : DataW.trod enc Tryd.prog W 0 (fun _ => true) true fuel 29 [.slice a len cap] = some x) : ∃ l0 : List S24, Kd.C k24 W a len l0 ∧ l0.length = len ∧ len ≤ cap := by
  rcases open_slice_pairs Tryd.underlying29 Tryd.underlying24 (by kernel_rfl) rfl rfl (by kernel_rfl) (by kernel_rfl) h with ⟨hcs, _⟩ | ⟨ad, len', cap', m, n, V0, V1, D0, D1, P0, P1, hcs, hb, hl, hm, hmm, hx, hi⟩
  · simp at hcs
    obtain ⟨rfl, rfl, rfl⟩ := hcs
    exact ⟨[], ⟨rfl, by omega, fun h => by omega⟩, rfl, Nat.le_refl _⟩
  · simp at hcs
    obtain ⟨rfl, rfl, rfl⟩ := hcs
    have hmc : m = cap := by simpa using hmm
    subst hmc
    refine ⟨(List.range len).map fun i => ⟨strV (V0 i), strV (V1 i)⟩, ⟨by simp, Nat.le_trans (Nat.le_trans hl hm) (by decide), fun _ => ⟨ad, rfl, ?_⟩⟩, by simp, hl⟩
    intro j p hj
    have hjl : j < len := by
      have := (List.getElem?_eq_some_iff.1 hj).1
      simpa using this
    obtain ⟨h0, h1, h2, h3⟩ := hi j (by omega)
    obtain ⟨s0, e0, _, _⟩ := DataW.trod_string Tryd.underlying9 h2
    obtain ⟨s1, e1, _, _⟩ := DataW.trod_string Tryd.underlying9 h3
    simp only [List.cons.injEq, and_true] at e0 e1
    have hp : p = ⟨s0, s1⟩ := by
      rw [List.getElem?_map, List.getElem?_range hjl] at hj
      simp only [Option.map_some, Option.some.injEq] at hj
      rw [← hj, e0, e1]
      rfl
    subst hp
    refine ⟨[.string s0, .string s1], rfl, k24_mk W _, ?_⟩
    intro i u hu
    match i, hu with
    | 0, hu =>
      simp only [List.getElem?_cons_zero, Option.some.injEq] at hu
      rw [← hu, ← e0]
      exact h0
    | 1, hu =>
      simp only [List.getElem?_cons_succ, List.getElem?_cons_zero, Option.some.injEq] at hu
      rw [← hu, ← e1]
      exact h1
/-- An entry that came in. -/
theorem open_entry {H : Type} {enc : TypeId × Value → H} {W : World} {r : Reach} {b0 : Nat} {v : Value} {d : DataW H} {p : List MemPlace}
    (hv : Value.okWide Tryd.prog W r b0 24 v) (h : DataW.Trod enc Tryd.prog W 0 (fun _ => true) true 24 v d p) : ∃ s0 s1 : ByteArray, v = .agg #[.string s0, .string s1] ∧ s0.size ≤ maxLen ∧ s1.size ≤ maxLen := by
  obtain ⟨v0, v1, y0, y1, n, rfl, _, _, h0, h1⟩ := Go.Joins.open_agg2 Tryd.underlying24 (by kernel_rfl) (by kernel_rfl) hv h
  obtain ⟨s0, e0, _, b0⟩ := DataW.trod_string Tryd.underlying9 h0
  obtain ⟨s1, e1, _, b1⟩ := DataW.trod_string Tryd.underlying9 h1
  simp only [List.cons.injEq, and_true] at e0 e1
  subst e0
  subst e1
  exact ⟨s0, s1, rfl, b0, b1⟩
end Go.Proofs.YtkeegknadegaaaaDoor.Q
