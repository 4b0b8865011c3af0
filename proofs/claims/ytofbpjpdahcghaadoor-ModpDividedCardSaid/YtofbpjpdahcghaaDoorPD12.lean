/-
  ModpDivided: the quotient times the divisor, and the rest, are what was divided; the rest has a lesser degree; of a product there is none (for every input), part 12 of 12 (packed by pack.py from texts of this session).
-/
import Derived.Test.YtofbpjpdahcghaaDoorPD1
import Derived.Test.YtofbpjpdahcghaaDoorPD3
import Derived.Test.YtofbpjpdahcghaaDoorPD4
import Derived.Test.YtofbpjpdahcghaaDoorPD5
import Derived.Test.YtofbpjpdahcghaaDoorPD6
import Derived.Test.YtofbpjpdahcghaaDoorPD7
import Derived.Test.YtofbpjpdahcghaaDoorPD8
import Derived.Test.YtofbpjpdahcghaaDoorPD9
import Derived.Test.YtofbpjpdahcghaaDoorPD10
import Derived.Test.YtofbpjpdahcghaaDoorPD11
import Derived.Test.YtofbpjpdahcghaaDoorTie
import Derived.Test.YtofbpjpdahcghaaDoorCards
import Derived.SevenTiedAt
namespace Go.Proofs.YtofbpjpdahcghaaDoor
open Go
theorem modpDivided_plainParams : ∀ t ∈ Tryd.f4.params.toList, Tryd.prog.wantsStandIn t = false := by
 rw [Tryd.params4]
 intro t ht
 simp only [List.mem_cons, List.not_mem_nil, or_false] at ht
 first
   | (rcases ht with rfl | rfl <;> kernel_rfl)
   | (subst ht; kernel_rfl)
theorem modpDivided_card : Rows.ModpDividedCardSaid :=
 Claim7.holds_tied_plain_at .later [] [.funcsDeep] true (true, "b0357860f3fe43710842eeec39f360e47b77cc453f184e2e635e0f685a5c5450") false
   modpDivided_holds (fun _ h => by cases h) (by kernel_rfl) (fun _ h => by cases h) modpDivided_row_tie rfl ⟨rfl, rfl⟩ (by kernel_rfl) rfl
   (fun f fn hf hfn => by
     obtain rfl : f = 4 := Option.some.inj ((show Tryd.prog.funcNamed "ziggurat/zigguratlaw14.ModpDivided" = some 4 by kernel_rfl).symm.trans hf) |>.symm
     obtain rfl : fn = Tryd.f4 := (Option.some.inj (Tryd.func4.symm.trans hfn)).symm
     exact ⟨by kernel_rfl, fun j t ht => modpDivided_plainParams t (List.mem_of_getElem? (l := Tryd.f4.params.toList) (i := j) (by simpa using ht))⟩)
   (by kernel_rfl)
#print axioms modpDivided_card
end Go.Proofs.YtofbpjpdahcghaaDoor
