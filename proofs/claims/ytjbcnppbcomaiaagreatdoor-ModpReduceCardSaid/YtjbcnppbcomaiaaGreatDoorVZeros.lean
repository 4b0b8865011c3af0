/-
  The words of this seat as the kit's print laid them (Zeros), without what this claim does not use.
-/
import Derived.Test.YtjbcnppbcomaiaaGreatDoorVApart
import Derived.Test.YtjbcnppbcomaiaaGreatDoorVArr
namespace Go.Proofs.YtjbcnppbcomaiaaGreatDoorW.PrintWords
open Go.RowKit
section
variable {P : Program}
end
namespace Kd
section
variable {P : Program} {ops : Array Oper} {rest : List Oper} {o : Oper} {a : Act} {Q : Exit → Act → World → Prop} {Kc : Act → World → Prop} {α : Type}
end
section
variable {α : Type} {d : Kd α} {e : Nat} {w : World} {base : Nat} {ok : Nat → Prop} {v : Value} {xs : List α}
end
section
variable {P : Program} {ops : Array Oper} {rest : List Oper} {o : Oper} {a : Act} {Q : Exit → Act → World → Prop} {Kc : Act → World → Prop} {α : Type}
end
end Kd
end Go.Proofs.YtjbcnppbcomaiaaGreatDoorW.PrintWords
