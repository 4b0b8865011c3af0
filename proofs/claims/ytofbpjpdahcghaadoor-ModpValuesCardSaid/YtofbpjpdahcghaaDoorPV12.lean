/-
  ModpValues: sums and products have at each number the sum, and the product, of the values; both stand whichever comes first (for every input), part 12 of 12 (packed by pack.py from texts of this session).
-/
import Derived.Test.YtofbpjpdahcghaaDoorPV1
import Derived.Test.YtofbpjpdahcghaaDoorPV3
import Derived.Test.YtofbpjpdahcghaaDoorPV4
import Derived.Test.YtofbpjpdahcghaaDoorPV5
import Derived.Test.YtofbpjpdahcghaaDoorPV6
import Derived.Test.YtofbpjpdahcghaaDoorPV7
import Derived.Test.YtofbpjpdahcghaaDoorPV8
import Derived.Test.YtofbpjpdahcghaaDoorPV9
import Derived.Test.YtofbpjpdahcghaaDoorPV10
import Derived.Test.YtofbpjpdahcghaaDoorPV11
import Derived.Test.YtofbpjpdahcghaaDoorTie
import Derived.Test.YtofbpjpdahcghaaDoorCards
import Derived.SevenTiedAt
namespace Go.Proofs.YtofbpjpdahcghaaDoor
open Go
theorem modpValues_plainParams : ∀ t ∈ Tryd.f3.params.toList, Tryd.prog.wantsStandIn t = false := by
 rw [Tryd.params3]
 intro t ht
 simp only [List.mem_cons, List.not_mem_nil, or_false] at ht
 first
   | (rcases ht with rfl | rfl <;> kernel_rfl)
   | (subst ht; kernel_rfl)
theorem modpValues_card : Rows.ModpValuesCardSaid :=
 Claim7.holds_tied_plain_at .later [] [.funcsDeep] true (true, "b0357860f3fe43710842eeec39f360e47b77cc453f184e2e635e0f685a5c5450") false
   modpValues_holds (fun _ h => by cases h) (by kernel_rfl) (fun _ h => by cases h) modpValues_row_tie rfl ⟨rfl, rfl⟩ (by kernel_rfl) rfl
   (fun f fn hf hfn => by
     obtain rfl : f = 3 := Option.some.inj ((show Tryd.prog.funcNamed "ziggurat/zigguratlaw14.ModpValues" = some 3 by kernel_rfl).symm.trans hf) |>.symm
     obtain rfl : fn = Tryd.f3 := (Option.some.inj (Tryd.func3.symm.trans hfn)).symm
     exact ⟨by kernel_rfl, fun j t ht => modpValues_plainParams t (List.mem_of_getElem? (l := Tryd.f3.params.toList) (i := j) (by simpa using ht))⟩)
   (by kernel_rfl)
#print axioms modpValues_card
end Go.Proofs.YtofbpjpdahcghaaDoor
