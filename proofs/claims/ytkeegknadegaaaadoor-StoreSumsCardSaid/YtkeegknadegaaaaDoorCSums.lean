/-
  StoreSums: the tied card.
-/
import Derived.Test.YtkeegknadegaaaaDoorLSums
import Derived.Test.YtkeegknadegaaaaDoorTie
import Derived.Test.YtkeegknadegaaaaDoorCards
import Derived.SevenTiedAt
namespace Go.Proofs.YtkeegknadegaaaaDoor
open Go
theorem storeSums_plainParams : ∀ t ∈ Tryd.f10.params.toList, Tryd.prog.wantsStandIn t = false := by
  rw [Tryd.params10]
  intro t ht
  simp only [List.mem_cons, List.not_mem_nil, or_false] at ht
  first
    | (rcases ht with rfl | rfl | rfl <;> kernel_rfl)
    | (rcases ht with rfl | rfl <;> kernel_rfl)
    | (subst ht; kernel_rfl)
theorem storeSums_card : Rows.StoreSumsCardSaid :=
  Claim7.holds_tied_plain_at .later [] [.handle] true (true, "34bdef4e9bffb480d87468241b17d7559861034fec9fdb17c8b41cbaa0e36c65") true
    storeSums_holds (fun _ h => by cases h) (by kernel_rfl) (fun _ h => by cases h) storeSums_row_tie rfl ⟨rfl, rfl⟩ (by kernel_rfl) rfl
    (fun f fn hf hfn => by
      obtain rfl : f = 10 := Option.some.inj ((show Tryd.prog.funcNamed "ziggurat/zigguratlaw30.StoreSums" = some 10 by kernel_rfl).symm.trans hf) |>.symm
      obtain rfl : fn = Tryd.f10 := (Option.some.inj (Tryd.func10.symm.trans hfn)).symm
      exact ⟨by kernel_rfl, fun j t ht => storeSums_plainParams t (List.mem_of_getElem? (l := Tryd.f10.params.toList) (i := j) (by simpa using ht))⟩)
    (by kernel_rfl)
#print axioms storeSums_card
end Go.Proofs.YtkeegknadegaaaaDoor
