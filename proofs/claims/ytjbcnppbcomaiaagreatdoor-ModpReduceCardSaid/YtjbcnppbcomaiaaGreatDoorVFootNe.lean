/-
  The words of this seat as the kit's print laid them (FootNe), without what this claim does not use.
-/
import Derived.Test.YtjbcnppbcomaiaaGreatDoorVN
namespace Go.Proofs.YtjbcnppbcomaiaaGreatDoorW.PrintWords
open Go.RowKit
namespace Kd
section
variable {α : Type} {d : Kd α} {W : World} {g n : Nat} {S ok : Nat → Prop} {A : Option Addr} {ad : Addr} {xs : List α}
end
end Kd
end Go.Proofs.YtjbcnppbcomaiaaGreatDoorW.PrintWords
