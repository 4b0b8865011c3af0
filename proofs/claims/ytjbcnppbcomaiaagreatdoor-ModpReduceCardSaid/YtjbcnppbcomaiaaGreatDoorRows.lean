/-
  NARROWER THAN 'FOR EVERY INPUT', by the rows' own cells (each row's printed sentence says how): ModpReduce: laid.
  DERIVED. THE GIVEN ROWS OF THIS SEAT. 1 by the template 'for every input the law returns true; each argument reads behind the call as it read before'; 0 by the template 'total and deterministic' (their statements: YtjbcnppbcomaiaaGreatDoorTotals.lean).
  GIVEN WITH THE SEED: the statements are not yours to turn. If you find one false, say at which input.
  Laid BY PROGRAM, IN A SANDBOX (cutbox-rows.mjs): the forced cells as the released guide's own fill.sh prints them over the translation d925267e95ef6a09… (all of the seat's roots in one cut). By AI agents, Wed Nov 11 2026. No macro, syntax, notation, axiom, sorry.
-/
import Derived.Test.YtjbcnppbcomaiaaGreatDoorChecked
import GoSem.Claim
import GoSem.ClaimJoined
import GoSem.ClaimMapViews
import Derived.JoinedTies
import Derived.KernelRfl
namespace Go.Proofs.YtjbcnppbcomaiaaGreatDoor
/- THE CELL 'sum', in the pinned program and in every row, IS THE sha256 OF THE DUMP (.gsa) THAT YtjbcnppbcomaiaaGreatDoorProg.lean LOADS. Nothing in Lean hashes anything: it is a label: what it is worth is what the hold of that sum in a sandbox is worth. -/
noncomputable def Tryz.pinned : Pinned := { name := "ytjbcnppbcomaiaagreatdoor", sum := "d925267e95ef6a09b43774804a33387a883a04dcaff5e5eb12a894a7e5cc967b", checked := Tryz.checked }
namespace Rows
def none {H : Type} : Left H := { results := [], args := [] }

/- WHAT THE LISTED PACKAGE-LEVEL VARIABLES READ AS WHEN THE CALL BEGINS. Each datum BY PROGRAM (the guide's laid-datum.mjs) off the statement by which the dump's own 'gosem.cut.vars' lays the variable. In a bare row this is a premise. The card (YtjbcnppbcomaiaaGreatDoorCards.lean) ties it to the program's text. -/
def laid_ziggurat_modp_ways {H : Type} : DataW H := .iface "func table" (.slice [.agg [.iface "func" (.lit (.string [122, 105, 103, 103, 117, 114, 97, 116, 47, 109, 111, 100, 112, 46, 119, 97, 121, 115, 36, 49])), .iface "func" (.lit (.string [122, 105, 103, 103, 117, 114, 97, 116, 47, 109, 111, 100, 112, 46, 109, 97, 116, 114, 105, 120]))], .agg [.iface "func" (.lit (.string [122, 105, 103, 103, 117, 114, 97, 116, 47, 109, 111, 100, 112, 46, 119, 97, 121, 115, 36, 50])), .iface "func" (.lit (.string [122, 105, 103, 103, 117, 114, 97, 116, 47, 109, 111, 100, 112, 46, 100, 101, 103, 114, 101, 101, 115]))]] [])

/-- 'zigguratlaw14.ModpReduce': WHATEVER THE INPUT: true; the input reads as it did. -/
def modpReduceSpec : ChangeSpec := { name := "modpReduce", fn := fun _ => fun
  | [d1, d2, d3] => { results := [.lit (.bool true)], args := [d1, d2, d3] }
  | _ => none }
def modpReduceRow : OpenClaim := { program := "ytjbcnppbcomaiaagreatdoor", sum := "d925267e95ef6a09b43774804a33387a883a04dcaff5e5eb12a894a7e5cc967b", func := "ziggurat/zigguratlaw14.ModpReduce", spec := "modpReduce", unfollowed := true, recurses := true, named := ["ziggurat/modp.ways", "math/bits.overflowError"], apart := false, laid := [("ziggurat/modp.ways", laid_ziggurat_modp_ways)] }
def ModpReduceSaid : Prop := modpReduceRow.holds Tryz.pinned (OpenSpec.ofChange modpReduceSpec)

/-- ITS FALSE NEIGHBOUR: 'it returns false'. Refute it at one input. -/
def modpReduceWrong : ChangeSpec := { name := "modpReduce", fn := fun _ => fun
  | [d1, d2, d3] => { results := [.lit (.bool false)], args := [d1, d2, d3] }
  | _ => none }
def ModpReduceWrongFalsely : Prop := modpReduceRow.holds Tryz.pinned (OpenSpec.ofChange modpReduceWrong)

/- THE SECOND FORM. 'bulk': how many values and letters a reading holds, each counted each time it is reached (what is shared counts as often as it is met; a slice's spare places count too). A statement '..UptoSaid' is the law's where the arguments, and the package variables that the reading takes, are together of bulk at most 1048576: NARROWER than '..Said'. Prove '..Said' where nothing that the law and all that it calls make is longer than what came in: it says more and counts as full. Else prove '..UptoSaid'. A law counts once. -/
mutual
def uptoBulk {H : Type} : DataW H → Nat
  | .lit (.string bytes) => bytes.length + 1
  | .lit _ => 1
  | .nil => 1
  | .ptr d => uptoBulk d + 1
  | .slice elems spare => uptoBulkAll elems + uptoBulkAll spare + 1
  | .agg parts => uptoBulkAll parts + 1
  | .iface _ d => uptoBulk d + 1
  | .map entries => uptoBulkEntries entries + 1
  | .held _ => 1
def uptoBulkAll {H : Type} : List (DataW H) → Nat
  | [] => 0
  | d :: r => uptoBulk d + uptoBulkAll r
def uptoBulkEntries {H : Type} : List (Lit × DataW H) → Nat
  | [] => 0
  | x :: r => uptoBulkEntry x + uptoBulkEntries r
def uptoBulkEntry {H : Type} : Lit × DataW H → Nat
  | (.string bytes, d) => bytes.length + uptoBulk d + 1
  | (_, d) => uptoBulk d + 1
 end
def uptoSmall : (H : Type) → List (DataW H) → Bool := fun _ ds => decide (uptoBulkAll ds ≤ 1048576)
def OpenSpec.upto (s : _root_.Go.ChangeSpec) : _root_.Go.OpenSpec := { _root_.Go.OpenSpec.ofChange s with cond := some uptoSmall }

/-- 'zigguratlaw14.ModpReduce', WHERE WHAT IT READS IS OF BULK AT MOST 1048576: true; the input reads as it did. -/
def modpReduceUptoRow : OpenClaim := { program := "ytjbcnppbcomaiaagreatdoor", sum := "d925267e95ef6a09b43774804a33387a883a04dcaff5e5eb12a894a7e5cc967b", func := "ziggurat/zigguratlaw14.ModpReduce", spec := "modpReduce", unfollowed := true, recurses := true, named := ["ziggurat/modp.ways", "math/bits.overflowError"], apart := false, laid := [("ziggurat/modp.ways", laid_ziggurat_modp_ways)], narrowed := true }
def ModpReduceUptoSaid : Prop := modpReduceUptoRow.holds Tryz.pinned (OpenSpec.upto modpReduceSpec)

end Rows
end Go.Proofs.YtjbcnppbcomaiaaGreatDoor
