/-
  ModpReduce: what is made of polynomials with whole coefficients, and then taken modulo a prime, is made alike of what they are modulo it (the row, the walk and the plain words), part 13 of 13 (packed by pack.py from texts of this session).
-/
import Derived.Test.YtjbcnppbcomaiaaGreatDoorPR1
import Derived.Test.YtjbcnppbcomaiaaGreatDoorPR3
import Derived.Test.YtjbcnppbcomaiaaGreatDoorPR4
import Derived.Test.YtjbcnppbcomaiaaGreatDoorPR5
import Derived.Test.YtjbcnppbcomaiaaGreatDoorPR6
import Derived.Test.YtjbcnppbcomaiaaGreatDoorPR7
import Derived.Test.YtjbcnppbcomaiaaGreatDoorPR9
import Derived.Test.YtjbcnppbcomaiaaGreatDoorPR10
import Derived.Test.YtjbcnppbcomaiaaGreatDoorPR11
import Derived.Test.YtjbcnppbcomaiaaGreatDoorPR12
import Derived.Test.YtjbcnppbcomaiaaGreatDoorTie
import Derived.Test.YtjbcnppbcomaiaaGreatDoorCards
import Derived.SevenTiedAt
set_option maxRecDepth 100000
set_option maxHeartbeats 8000000
set_option linter.unusedVariables false
namespace Go.Proofs.YtjbcnppbcomaiaaGreatDoor
open Go
theorem modpReduce_plainParams : ∀ t ∈ Tryz.f3.params.toList, Tryz.prog.wantsStandIn t = false := by
 rw [Tryz.params3]
 intro t ht
 simp only [List.mem_cons, List.not_mem_nil, or_false] at ht
 first
   | (rcases ht with rfl | rfl | rfl <;> kernel_rfl)
   | (rcases ht with rfl | rfl <;> kernel_rfl)
theorem modpReduce_card : Rows.ModpReduceCardSaid :=
 Claim7.holds_tied_plain_at .later [] [.funcsDeep] true (true, "72cb9055d516ad42f06445e7716f958db10d690b14d58c9c208d74daece68379") false
   modpReduce_holds (fun _ h => by cases h) (by kernel_rfl) (fun _ h => by cases h) modpReduce_row_tie rfl ⟨rfl, rfl⟩ (by kernel_rfl) rfl
   (fun f fn hf hfn => by
     obtain rfl : f = 3 := Option.some.inj ((show Tryz.prog.funcNamed "ziggurat/zigguratlaw14.ModpReduce" = some 3 by kernel_rfl).symm.trans hf) |>.symm
     obtain rfl : fn = Tryz.f3 := (Option.some.inj (Tryz.func3.symm.trans hfn)).symm
     exact ⟨by kernel_rfl, fun j t ht => modpReduce_plainParams t (List.mem_of_getElem? (l := Tryz.f3.params.toList) (i := j) (by simpa using ht))⟩)
   (by kernel_rfl)
#print axioms modpReduce_card
end Go.Proofs.YtjbcnppbcomaiaaGreatDoor
