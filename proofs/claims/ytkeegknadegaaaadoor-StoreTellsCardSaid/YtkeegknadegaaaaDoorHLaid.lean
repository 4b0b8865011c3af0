/-
  What the rows' condition 'laid' gives a walk: the cell of errors.errorType; a world that meets it.
-/
import Derived.Test.YtkeegknadegaaaaDoorRows
import Derived.Test.YtkeegknadegaaaaDoorHRead
import Derived.ChangeSame
import Derived.ChangeVars
import Derived.JoinedOf
import Derived.RowKit
import Derived.RowKitTokens
import Derived.LaidLaws
import Derived.LaidHandle
import Derived.Stop.Joined
namespace Go.Proofs.YtkeegknadegaaaaDoor
open Go Go.ChangeShapes Go.WideShapes Go.RowKit
theorem et0 : Tryd.prog.globalNamed "errors.errorType" = some 0 := by kernel_rfl
theorem rt0 : (Tryd.prog.cutTypes.find? (·.1 == "internal/reflectlite.rtype")).map (·.2) = some 86 := by kernel_rfl
theorem oneRow0 : ((List.range Tryd.prog.types.size).filter fun t => Tryd.prog.rowNamed t [101, 114, 114, 111, 114]) = [58] := by kernel_rfl
abbrev laidList {H : Type} : List (String × DataW H) := [("errors.errorType", Rows.laid_errors_errorType)]
theorem gok_of_laid {W : World} (h : laidMetH Tryd.prog laidList W) : Q.GOK W := by
  have h' : laidMet Tryd.prog [] W ∧ handlesMet Tryd.prog laidList W := h
  obtain ⟨name, u, ty, e1, e2, e3, e4, e5⟩ := h'.2 _ (List.mem_singleton.2 rfl)
  have en : name = [101, 114, 114, 111, 114] := (Option.some.inj e1).symm
  subst en
  obtain rfl := Option.some.inj (rt0.symm.trans e2)
  have hm : ty ∈ (List.range Tryd.prog.types.size).filter fun t => Tryd.prog.rowNamed t [101, 114, 114, 111, 114] := List.mem_filter.2 ⟨List.mem_range.2 e3, e4⟩
  rw [oneRow0] at hm
  obtain rfl := List.mem_singleton.1 hm
  have hh : typeHandle Tryd.prog 58 = .pointer (some ⟨1, 58, none⟩) := by kernel_rfl
  rw [hh] at e5
  unfold Q.GOK
  simpa using World.var?_cell et0 e5 0
/-- A world that meets the condition: the settled one, the variable's cell laid. -/
noncomputable def laidWorld (os : Os) : World :=
  let w0 := World.holding Tryd.prog os ⟨#[], #[], []⟩
  { w0 with heap := w0.heap.modify 0 fun
      | .cells _ t frozen => .cells #[.iface 86 (.agg #[.pointer (some ⟨1, 58, none⟩)])] t frozen
      | o => o }
theorem laidWorld_met (os : Os) (args : Array Value) : laidMetH Tryd.prog laidList ((laidWorld os).forCall (fun _ _ => 0) ⟨#[], args, []⟩).memory :=
  laidMetH_of_parts (laidMet_nil _ _) (by kernel_rfl)
end Go.Proofs.YtkeegknadegaaaaDoor
