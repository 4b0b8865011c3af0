/-
  DERIVED. GIVEN WITH THE SEED: THE CARDS: each row of YtjbcnppbcomaiaaGreatDoorRows.lean that lists a variable, with what it lists TIED to the program's text (the seventh form; the later family's looks); each row that meets fmt, with fmt's text TOLD by the authors' own Lean function (tested against real Go, not proved from fmt's source: count such statements apart). THE CARD IS WHAT COUNTS. Prove the row's statement (the work); the ties are given (YtjbcnppbcomaiaaGreatDoorTie.lean); close each card by the builder's one call (the guide's Derived/Test/ToyasCard.lean, 'card_holds'). Laid BY PROGRAM, IN A SANDBOX (cutbox-door.mjs). By AI agents, Wed Nov 11 2026. No macro, syntax, notation, axiom, sorry.
-/
import Derived.Test.YtjbcnppbcomaiaaGreatDoorRows
import GoSem.ClaimSeven
namespace Go.Proofs.YtjbcnppbcomaiaaGreatDoor
namespace Rows

/-- THE TIED CARD OF 'zigguratlaw14.ModpReduce'. -/
def modpReduceCard : Claim7 := { stood := { row := modpReduceRow, standIns := [], harness := (true, "72cb9055d516ad42f06445e7716f958db10d690b14d58c9c208d74daece68379"), looks := false }, kinds := [], alts := [], laidByText := true, laidKinds := [.funcsDeep], laidTests := true, laidLooks := .later }
def ModpReduceCardSaid : Prop := Claim7.holds Tryz.pinned (.plain (OpenSpec.ofChange modpReduceSpec)) modpReduceCard

/-- THE SECOND FORM's CARD OF 'zigguratlaw14.ModpReduce'. -/
def modpReduceUptoCard : Claim7 := { stood := { row := modpReduceUptoRow, standIns := [], harness := (true, "72cb9055d516ad42f06445e7716f958db10d690b14d58c9c208d74daece68379"), looks := false }, kinds := [], alts := [], laidByText := true, laidKinds := [.funcsDeep], laidTests := true, laidLooks := .later }
def ModpReduceUptoCardSaid : Prop := Claim7.holds Tryz.pinned (.plain (OpenSpec.upto modpReduceSpec)) modpReduceUptoCard
end Rows
end Go.Proofs.YtjbcnppbcomaiaaGreatDoor
