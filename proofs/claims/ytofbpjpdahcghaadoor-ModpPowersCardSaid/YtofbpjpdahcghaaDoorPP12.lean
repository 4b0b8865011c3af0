/-
  ModpPowers: the power by a sum of exponents is the product of both powers, modulo the polynomial; by 0 it is 1, by 1 the rest; and of a product it is the product of the powers (the row, the walk and the plain words), part 12 of 12 (packed by pack.py from texts of this session).
-/
import Derived.Test.YtofbpjpdahcghaaDoorPP1
import Derived.Test.YtofbpjpdahcghaaDoorPP3
import Derived.Test.YtofbpjpdahcghaaDoorPP4
import Derived.Test.YtofbpjpdahcghaaDoorPP5
import Derived.Test.YtofbpjpdahcghaaDoorPP6
import Derived.Test.YtofbpjpdahcghaaDoorPP7
import Derived.Test.YtofbpjpdahcghaaDoorPP8
import Derived.Test.YtofbpjpdahcghaaDoorPP9
import Derived.Test.YtofbpjpdahcghaaDoorPP10
import Derived.Test.YtofbpjpdahcghaaDoorPP11
import Derived.Test.YtofbpjpdahcghaaDoorTie
import Derived.Test.YtofbpjpdahcghaaDoorCards
import Derived.SevenTiedAt
set_option maxRecDepth 100000
set_option maxHeartbeats 8000000
set_option linter.unusedVariables false
namespace Go.Proofs.YtofbpjpdahcghaaDoor
open Go
theorem modpPowers_plainParams : ∀ t ∈ Tryd.f6.params.toList, Tryd.prog.wantsStandIn t = false := by
 rw [Tryd.params6]
 intro t ht
 simp only [List.mem_cons, List.not_mem_nil, or_false] at ht
 first
   | (rcases ht with rfl | rfl <;> kernel_rfl)
   | (subst ht; kernel_rfl)
theorem modpPowers_card : Rows.ModpPowersCardSaid :=
 Claim7.holds_tied_plain_at .later [] [.funcsDeep] true (true, "b0357860f3fe43710842eeec39f360e47b77cc453f184e2e635e0f685a5c5450") false
   modpPowers_holds (fun _ h => by cases h) (by kernel_rfl) (fun _ h => by cases h) modpPowers_row_tie rfl ⟨rfl, rfl⟩ (by kernel_rfl) rfl
   (fun f fn hf hfn => by
     obtain rfl : f = 6 := Option.some.inj ((show Tryd.prog.funcNamed "ziggurat/zigguratlaw14.ModpPowers" = some 6 by kernel_rfl).symm.trans hf) |>.symm
     obtain rfl : fn = Tryd.f6 := (Option.some.inj (Tryd.func6.symm.trans hfn)).symm
     exact ⟨by kernel_rfl, fun j t ht => modpPowers_plainParams t (List.mem_of_getElem? (l := Tryd.f6.params.toList) (i := j) (by simpa using ht))⟩)
   (by kernel_rfl)
#print axioms modpPowers_card
end Go.Proofs.YtofbpjpdahcghaaDoor
