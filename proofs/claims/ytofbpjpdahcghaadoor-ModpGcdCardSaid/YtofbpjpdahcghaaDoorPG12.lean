/-
  ModpGcd: a greatest common divisor is monic and divides both; what it does to quotients and multiples (the row, the walk and the plain words), part 12 of 12 (packed by pack.py from texts of this session).
-/
import Derived.Test.YtofbpjpdahcghaaDoorPG1
import Derived.Test.YtofbpjpdahcghaaDoorPG3
import Derived.Test.YtofbpjpdahcghaaDoorPG4
import Derived.Test.YtofbpjpdahcghaaDoorPG5
import Derived.Test.YtofbpjpdahcghaaDoorPG6
import Derived.Test.YtofbpjpdahcghaaDoorPG7
import Derived.Test.YtofbpjpdahcghaaDoorPG8
import Derived.Test.YtofbpjpdahcghaaDoorPG9
import Derived.Test.YtofbpjpdahcghaaDoorPG10
import Derived.Test.YtofbpjpdahcghaaDoorPG11
import Derived.Test.YtofbpjpdahcghaaDoorTie
import Derived.Test.YtofbpjpdahcghaaDoorCards
import Derived.SevenTiedAt
set_option maxRecDepth 100000
set_option maxHeartbeats 8000000
set_option linter.unusedVariables false
namespace Go.Proofs.YtofbpjpdahcghaaDoor
open Go
theorem modpGcd_plainParams : ∀ t ∈ Tryd.f5.params.toList, Tryd.prog.wantsStandIn t = false := by
 rw [Tryd.params5]
 intro t ht
 simp only [List.mem_cons, List.not_mem_nil, or_false] at ht
 first
   | (rcases ht with rfl | rfl <;> kernel_rfl)
   | (subst ht; kernel_rfl)
theorem modpGcd_card : Rows.ModpGcdCardSaid :=
 Claim7.holds_tied_plain_at .later [] [.funcsDeep] true (true, "b0357860f3fe43710842eeec39f360e47b77cc453f184e2e635e0f685a5c5450") false
   modpGcd_holds (fun _ h => by cases h) (by kernel_rfl) (fun _ h => by cases h) modpGcd_row_tie rfl ⟨rfl, rfl⟩ (by kernel_rfl) rfl
   (fun f fn hf hfn => by
     obtain rfl : f = 5 := Option.some.inj ((show Tryd.prog.funcNamed "ziggurat/zigguratlaw14.ModpGcd" = some 5 by kernel_rfl).symm.trans hf) |>.symm
     obtain rfl : fn = Tryd.f5 := (Option.some.inj (Tryd.func5.symm.trans hfn)).symm
     exact ⟨by kernel_rfl, fun j t ht => modpGcd_plainParams t (List.mem_of_getElem? (l := Tryd.f5.params.toList) (i := j) (by simpa using ht))⟩)
   (by kernel_rfl)
#print axioms modpGcd_card
end Go.Proofs.YtofbpjpdahcghaaDoor
