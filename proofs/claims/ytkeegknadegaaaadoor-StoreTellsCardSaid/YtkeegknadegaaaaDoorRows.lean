/-
  NARROWER THAN 'FOR EVERY INPUT', by the rows' own cells (each row's printed sentence says how): StoreTells: laid · StoreBack: laid · StoreCut: laid · StoreFlipped: laid · StoreCanonical: laid · StoreMended: laid · StoreJoined: laid · StoreSums: laid.
  DERIVED. THE GIVEN ROWS OF THIS SEAT. 8 by the template 'for every input the law returns true; each argument reads behind the call as it read before'; 0 by the template 'total and deterministic' (their statements: YtkeegknadegaaaaDoorTotals.lean).
  GIVEN WITH THE SEED: the statements are not yours to turn. If you find one false, say at which input.
  Laid BY PROGRAM, IN A SANDBOX (cutbox-rows.mjs): the forced cells as the released guide's own fill.sh prints them over the translation 991dbe4aefdbfe10… (all of the seat's roots in one cut). By AI agents, Wed Nov 11 2026. No macro, syntax, notation, axiom, sorry.
-/
import Derived.Test.YtkeegknadegaaaaDoorChecked
import GoSem.Claim
import GoSem.ClaimJoined
import GoSem.ClaimMapViews
import Derived.JoinedTies
import Derived.KernelRfl
namespace Go.Proofs.YtkeegknadegaaaaDoor
/- THE CELL 'sum', in the pinned program and in every row, IS THE sha256 OF THE DUMP (.gsa) THAT YtkeegknadegaaaaDoorProg.lean LOADS. Nothing in Lean hashes anything: it is a label: what it is worth is what the hold of that sum in a sandbox is worth. -/
noncomputable def Tryd.pinned : Pinned := { name := "ytkeegknadegaaaadoor", sum := "991dbe4aefdbfe10950c3bd1bfcde46a6852e91957a564248cbbe4ca46d86577", checked := Tryd.checked }
namespace Rows
def none {H : Type} : Left H := { results := [], args := [] }

/- WHAT THE LISTED PACKAGE-LEVEL VARIABLES READ AS WHEN THE CALL BEGINS. Each datum BY PROGRAM (the guide's laid-datum.mjs) off the statement by which the dump's own 'gosem.cut.vars' lays the variable. In a bare row this is a premise. The card (YtkeegknadegaaaaDoorCards.lean) ties it to the program's text. -/
def laid_errors_errorType {H : Type} : DataW H := .iface "internal/reflectlite.rtype" (.agg [.ptr (.lit (.string [101, 114, 114, 111, 114]))])

/-- 'zigguratlaw30.StoreTells': WHATEVER THE INPUT: true; the input reads as it did. -/
def storeTellsSpec : ChangeSpec := { name := "storeTells", fn := fun _ => fun
  | [d1, d2] => { results := [.lit (.bool true)], args := [d1, d2] }
  | _ => none }
def storeTellsRow : OpenClaim := { program := "ytkeegknadegaaaadoor", sum := "991dbe4aefdbfe10950c3bd1bfcde46a6852e91957a564248cbbe4ca46d86577", func := "ziggurat/zigguratlaw30.StoreTells", spec := "storeTells", inPlace := ["internal/reflectlite.ValueOf", "(internal/reflectlite.Value).Type", "(internal/reflectlite.Value).IsNil", "internal/reflectlite.TypeOf", "(internal/reflectlite.Value).Elem", "(internal/reflectlite.Value).Set"], unfollowed := true, recurses := true, named := ["errors.errorType"], apart := false, laid := [("errors.errorType", laid_errors_errorType)] }
def StoreTellsSaid : Prop := storeTellsRow.holds Tryd.pinned (OpenSpec.ofChange storeTellsSpec)

/-- ITS FALSE NEIGHBOUR: 'it returns false'. Refute it at one input. -/
def storeTellsWrong : ChangeSpec := { name := "storeTells", fn := fun _ => fun
  | [d1, d2] => { results := [.lit (.bool false)], args := [d1, d2] }
  | _ => none }
def StoreTellsWrongFalsely : Prop := storeTellsRow.holds Tryd.pinned (OpenSpec.ofChange storeTellsWrong)

/-- 'zigguratlaw30.StoreBack': WHATEVER THE INPUT: true; the input reads as it did. -/
def storeBackSpec : ChangeSpec := { name := "storeBack", fn := fun _ => fun
  | [d] => { results := [.lit (.bool true)], args := [d] }
  | _ => none }
def storeBackRow : OpenClaim := { program := "ytkeegknadegaaaadoor", sum := "991dbe4aefdbfe10950c3bd1bfcde46a6852e91957a564248cbbe4ca46d86577", func := "ziggurat/zigguratlaw30.StoreBack", spec := "storeBack", inPlace := ["internal/reflectlite.ValueOf", "(internal/reflectlite.Value).Type", "(internal/reflectlite.Value).IsNil", "internal/reflectlite.TypeOf", "(internal/reflectlite.Value).Elem", "(internal/reflectlite.Value).Set"], unfollowed := true, recurses := true, named := ["errors.errorType"], apart := false, laid := [("errors.errorType", laid_errors_errorType)] }
def StoreBackSaid : Prop := storeBackRow.holds Tryd.pinned (OpenSpec.ofChange storeBackSpec)

/-- ITS FALSE NEIGHBOUR: 'it returns false'. Refute it at one input. -/
def storeBackWrong : ChangeSpec := { name := "storeBack", fn := fun _ => fun
  | [d] => { results := [.lit (.bool false)], args := [d] }
  | _ => none }
def StoreBackWrongFalsely : Prop := storeBackRow.holds Tryd.pinned (OpenSpec.ofChange storeBackWrong)

/-- 'zigguratlaw30.StoreCut': WHATEVER THE INPUT: true; the input reads as it did. -/
def storeCutSpec : ChangeSpec := { name := "storeCut", fn := fun _ => fun
  | [d1, d2] => { results := [.lit (.bool true)], args := [d1, d2] }
  | _ => none }
def storeCutRow : OpenClaim := { program := "ytkeegknadegaaaadoor", sum := "991dbe4aefdbfe10950c3bd1bfcde46a6852e91957a564248cbbe4ca46d86577", func := "ziggurat/zigguratlaw30.StoreCut", spec := "storeCut", inPlace := ["internal/reflectlite.ValueOf", "(internal/reflectlite.Value).Type", "(internal/reflectlite.Value).IsNil", "internal/reflectlite.TypeOf", "(internal/reflectlite.Value).Elem", "(internal/reflectlite.Value).Set"], unfollowed := true, recurses := true, named := ["errors.errorType"], apart := false, laid := [("errors.errorType", laid_errors_errorType)] }
def StoreCutSaid : Prop := storeCutRow.holds Tryd.pinned (OpenSpec.ofChange storeCutSpec)

/-- ITS FALSE NEIGHBOUR: 'it returns false'. Refute it at one input. -/
def storeCutWrong : ChangeSpec := { name := "storeCut", fn := fun _ => fun
  | [d1, d2] => { results := [.lit (.bool false)], args := [d1, d2] }
  | _ => none }
def StoreCutWrongFalsely : Prop := storeCutRow.holds Tryd.pinned (OpenSpec.ofChange storeCutWrong)

/-- 'zigguratlaw30.StoreFlipped': WHATEVER THE INPUT: true; the input reads as it did. -/
def storeFlippedSpec : ChangeSpec := { name := "storeFlipped", fn := fun _ => fun
  | [d1, d2, d3] => { results := [.lit (.bool true)], args := [d1, d2, d3] }
  | _ => none }
def storeFlippedRow : OpenClaim := { program := "ytkeegknadegaaaadoor", sum := "991dbe4aefdbfe10950c3bd1bfcde46a6852e91957a564248cbbe4ca46d86577", func := "ziggurat/zigguratlaw30.StoreFlipped", spec := "storeFlipped", inPlace := ["internal/reflectlite.ValueOf", "(internal/reflectlite.Value).Type", "(internal/reflectlite.Value).IsNil", "internal/reflectlite.TypeOf", "(internal/reflectlite.Value).Elem", "(internal/reflectlite.Value).Set"], unfollowed := true, recurses := true, named := ["errors.errorType"], apart := false, laid := [("errors.errorType", laid_errors_errorType)] }
def StoreFlippedSaid : Prop := storeFlippedRow.holds Tryd.pinned (OpenSpec.ofChange storeFlippedSpec)

/-- ITS FALSE NEIGHBOUR: 'it returns false'. Refute it at one input. -/
def storeFlippedWrong : ChangeSpec := { name := "storeFlipped", fn := fun _ => fun
  | [d1, d2, d3] => { results := [.lit (.bool false)], args := [d1, d2, d3] }
  | _ => none }
def StoreFlippedWrongFalsely : Prop := storeFlippedRow.holds Tryd.pinned (OpenSpec.ofChange storeFlippedWrong)

/-- 'zigguratlaw30.StoreCanonical': WHATEVER THE INPUT: true; the input reads as it did. -/
def storeCanonicalSpec : ChangeSpec := { name := "storeCanonical", fn := fun _ => fun
  | [d] => { results := [.lit (.bool true)], args := [d] }
  | _ => none }
def storeCanonicalRow : OpenClaim := { program := "ytkeegknadegaaaadoor", sum := "991dbe4aefdbfe10950c3bd1bfcde46a6852e91957a564248cbbe4ca46d86577", func := "ziggurat/zigguratlaw30.StoreCanonical", spec := "storeCanonical", inPlace := ["internal/reflectlite.ValueOf", "(internal/reflectlite.Value).Type", "(internal/reflectlite.Value).IsNil", "internal/reflectlite.TypeOf", "(internal/reflectlite.Value).Elem", "(internal/reflectlite.Value).Set"], unfollowed := true, recurses := true, named := ["errors.errorType"], apart := false, laid := [("errors.errorType", laid_errors_errorType)] }
def StoreCanonicalSaid : Prop := storeCanonicalRow.holds Tryd.pinned (OpenSpec.ofChange storeCanonicalSpec)

/-- ITS FALSE NEIGHBOUR: 'it returns false'. Refute it at one input. -/
def storeCanonicalWrong : ChangeSpec := { name := "storeCanonical", fn := fun _ => fun
  | [d] => { results := [.lit (.bool false)], args := [d] }
  | _ => none }
def StoreCanonicalWrongFalsely : Prop := storeCanonicalRow.holds Tryd.pinned (OpenSpec.ofChange storeCanonicalWrong)

/-- 'zigguratlaw30.StoreMended': WHATEVER THE INPUT: true; the input reads as it did. -/
def storeMendedSpec : ChangeSpec := { name := "storeMended", fn := fun _ => fun
  | [d1, d2] => { results := [.lit (.bool true)], args := [d1, d2] }
  | _ => none }
def storeMendedRow : OpenClaim := { program := "ytkeegknadegaaaadoor", sum := "991dbe4aefdbfe10950c3bd1bfcde46a6852e91957a564248cbbe4ca46d86577", func := "ziggurat/zigguratlaw30.StoreMended", spec := "storeMended", inPlace := ["internal/reflectlite.ValueOf", "(internal/reflectlite.Value).Type", "(internal/reflectlite.Value).IsNil", "internal/reflectlite.TypeOf", "(internal/reflectlite.Value).Elem", "(internal/reflectlite.Value).Set"], unfollowed := true, recurses := true, named := ["errors.errorType"], apart := false, laid := [("errors.errorType", laid_errors_errorType)] }
def StoreMendedSaid : Prop := storeMendedRow.holds Tryd.pinned (OpenSpec.ofChange storeMendedSpec)

/-- ITS FALSE NEIGHBOUR: 'it returns false'. Refute it at one input. -/
def storeMendedWrong : ChangeSpec := { name := "storeMended", fn := fun _ => fun
  | [d1, d2] => { results := [.lit (.bool false)], args := [d1, d2] }
  | _ => none }
def StoreMendedWrongFalsely : Prop := storeMendedRow.holds Tryd.pinned (OpenSpec.ofChange storeMendedWrong)

/-- 'zigguratlaw30.StoreJoined': WHATEVER THE INPUT: true; the input reads as it did. -/
def storeJoinedSpec : ChangeSpec := { name := "storeJoined", fn := fun _ => fun
  | [d1, d2] => { results := [.lit (.bool true)], args := [d1, d2] }
  | _ => none }
def storeJoinedRow : OpenClaim := { program := "ytkeegknadegaaaadoor", sum := "991dbe4aefdbfe10950c3bd1bfcde46a6852e91957a564248cbbe4ca46d86577", func := "ziggurat/zigguratlaw30.StoreJoined", spec := "storeJoined", inPlace := ["internal/reflectlite.ValueOf", "(internal/reflectlite.Value).Type", "(internal/reflectlite.Value).IsNil", "internal/reflectlite.TypeOf", "(internal/reflectlite.Value).Elem", "(internal/reflectlite.Value).Set"], unfollowed := true, recurses := true, named := ["errors.errorType"], apart := false, laid := [("errors.errorType", laid_errors_errorType)] }
def StoreJoinedSaid : Prop := storeJoinedRow.holds Tryd.pinned (OpenSpec.ofChange storeJoinedSpec)

/-- ITS FALSE NEIGHBOUR: 'it returns false'. Refute it at one input. -/
def storeJoinedWrong : ChangeSpec := { name := "storeJoined", fn := fun _ => fun
  | [d1, d2] => { results := [.lit (.bool false)], args := [d1, d2] }
  | _ => none }
def StoreJoinedWrongFalsely : Prop := storeJoinedRow.holds Tryd.pinned (OpenSpec.ofChange storeJoinedWrong)

/-- 'zigguratlaw30.StoreSums': WHATEVER THE INPUT: true; the input reads as it did. -/
def storeSumsSpec : ChangeSpec := { name := "storeSums", fn := fun _ => fun
  | [d1, d2, d3] => { results := [.lit (.bool true)], args := [d1, d2, d3] }
  | _ => none }
def storeSumsRow : OpenClaim := { program := "ytkeegknadegaaaadoor", sum := "991dbe4aefdbfe10950c3bd1bfcde46a6852e91957a564248cbbe4ca46d86577", func := "ziggurat/zigguratlaw30.StoreSums", spec := "storeSums", inPlace := ["internal/reflectlite.ValueOf", "(internal/reflectlite.Value).Type", "(internal/reflectlite.Value).IsNil", "internal/reflectlite.TypeOf", "(internal/reflectlite.Value).Elem", "(internal/reflectlite.Value).Set"], unfollowed := true, recurses := true, named := ["errors.errorType"], apart := false, laid := [("errors.errorType", laid_errors_errorType)] }
def StoreSumsSaid : Prop := storeSumsRow.holds Tryd.pinned (OpenSpec.ofChange storeSumsSpec)

/-- ITS FALSE NEIGHBOUR: 'it returns false'. Refute it at one input. -/
def storeSumsWrong : ChangeSpec := { name := "storeSums", fn := fun _ => fun
  | [d1, d2, d3] => { results := [.lit (.bool false)], args := [d1, d2, d3] }
  | _ => none }
def StoreSumsWrongFalsely : Prop := storeSumsRow.holds Tryd.pinned (OpenSpec.ofChange storeSumsWrong)

/- THE SECOND FORM. 'bulk': how many values and letters a reading holds, each counted each time it is reached (what is shared counts as often as it is met; a slice's spare places count too). A statement '..UptoSaid' is the law's where the arguments, and the package variables that the reading takes, are together of bulk at most 1048576: NARROWER than '..Said'. Prove '..Said' where nothing that the law and all that it calls make is longer than what came in: it says more and counts as full. Else prove '..UptoSaid'. A law counts once. -/
mutual
def uptoBulk {H : Type} : DataW H → Nat
  | .lit (.string bytes) => bytes.length + 1
  | .lit _ => 1
  | .nil => 1
  | .ptr d => uptoBulk d + 1
  | .slice elems spare => uptoBulkAll elems + uptoBulkAll spare + 1
  | .agg parts => uptoBulkAll parts + 1
  | .iface _ d => uptoBulk d + 1
  | .map entries => uptoBulkEntries entries + 1
  | .held _ => 1
def uptoBulkAll {H : Type} : List (DataW H) → Nat
  | [] => 0
  | d :: r => uptoBulk d + uptoBulkAll r
def uptoBulkEntries {H : Type} : List (Lit × DataW H) → Nat
  | [] => 0
  | x :: r => uptoBulkEntry x + uptoBulkEntries r
def uptoBulkEntry {H : Type} : Lit × DataW H → Nat
  | (.string bytes, d) => bytes.length + uptoBulk d + 1
  | (_, d) => uptoBulk d + 1
 end
def uptoSmall : (H : Type) → List (DataW H) → Bool := fun _ ds => decide (uptoBulkAll ds ≤ 1048576)
def OpenSpec.upto (s : _root_.Go.ChangeSpec) : _root_.Go.OpenSpec := { _root_.Go.OpenSpec.ofChange s with cond := some uptoSmall }

/-- 'zigguratlaw30.StoreTells', WHERE WHAT IT READS IS OF BULK AT MOST 1048576: true; the input reads as it did. -/
def storeTellsUptoRow : OpenClaim := { program := "ytkeegknadegaaaadoor", sum := "991dbe4aefdbfe10950c3bd1bfcde46a6852e91957a564248cbbe4ca46d86577", func := "ziggurat/zigguratlaw30.StoreTells", spec := "storeTells", inPlace := ["internal/reflectlite.ValueOf", "(internal/reflectlite.Value).Type", "(internal/reflectlite.Value).IsNil", "internal/reflectlite.TypeOf", "(internal/reflectlite.Value).Elem", "(internal/reflectlite.Value).Set"], unfollowed := true, recurses := true, named := ["errors.errorType"], apart := false, laid := [("errors.errorType", laid_errors_errorType)], narrowed := true }
def StoreTellsUptoSaid : Prop := storeTellsUptoRow.holds Tryd.pinned (OpenSpec.upto storeTellsSpec)

/-- 'zigguratlaw30.StoreBack', WHERE WHAT IT READS IS OF BULK AT MOST 1048576: true; the input reads as it did. -/
def storeBackUptoRow : OpenClaim := { program := "ytkeegknadegaaaadoor", sum := "991dbe4aefdbfe10950c3bd1bfcde46a6852e91957a564248cbbe4ca46d86577", func := "ziggurat/zigguratlaw30.StoreBack", spec := "storeBack", inPlace := ["internal/reflectlite.ValueOf", "(internal/reflectlite.Value).Type", "(internal/reflectlite.Value).IsNil", "internal/reflectlite.TypeOf", "(internal/reflectlite.Value).Elem", "(internal/reflectlite.Value).Set"], unfollowed := true, recurses := true, named := ["errors.errorType"], apart := false, laid := [("errors.errorType", laid_errors_errorType)], narrowed := true }
def StoreBackUptoSaid : Prop := storeBackUptoRow.holds Tryd.pinned (OpenSpec.upto storeBackSpec)

/-- 'zigguratlaw30.StoreCut', WHERE WHAT IT READS IS OF BULK AT MOST 1048576: true; the input reads as it did. -/
def storeCutUptoRow : OpenClaim := { program := "ytkeegknadegaaaadoor", sum := "991dbe4aefdbfe10950c3bd1bfcde46a6852e91957a564248cbbe4ca46d86577", func := "ziggurat/zigguratlaw30.StoreCut", spec := "storeCut", inPlace := ["internal/reflectlite.ValueOf", "(internal/reflectlite.Value).Type", "(internal/reflectlite.Value).IsNil", "internal/reflectlite.TypeOf", "(internal/reflectlite.Value).Elem", "(internal/reflectlite.Value).Set"], unfollowed := true, recurses := true, named := ["errors.errorType"], apart := false, laid := [("errors.errorType", laid_errors_errorType)], narrowed := true }
def StoreCutUptoSaid : Prop := storeCutUptoRow.holds Tryd.pinned (OpenSpec.upto storeCutSpec)

/-- 'zigguratlaw30.StoreFlipped', WHERE WHAT IT READS IS OF BULK AT MOST 1048576: true; the input reads as it did. -/
def storeFlippedUptoRow : OpenClaim := { program := "ytkeegknadegaaaadoor", sum := "991dbe4aefdbfe10950c3bd1bfcde46a6852e91957a564248cbbe4ca46d86577", func := "ziggurat/zigguratlaw30.StoreFlipped", spec := "storeFlipped", inPlace := ["internal/reflectlite.ValueOf", "(internal/reflectlite.Value).Type", "(internal/reflectlite.Value).IsNil", "internal/reflectlite.TypeOf", "(internal/reflectlite.Value).Elem", "(internal/reflectlite.Value).Set"], unfollowed := true, recurses := true, named := ["errors.errorType"], apart := false, laid := [("errors.errorType", laid_errors_errorType)], narrowed := true }
def StoreFlippedUptoSaid : Prop := storeFlippedUptoRow.holds Tryd.pinned (OpenSpec.upto storeFlippedSpec)

/-- 'zigguratlaw30.StoreCanonical', WHERE WHAT IT READS IS OF BULK AT MOST 1048576: true; the input reads as it did. -/
def storeCanonicalUptoRow : OpenClaim := { program := "ytkeegknadegaaaadoor", sum := "991dbe4aefdbfe10950c3bd1bfcde46a6852e91957a564248cbbe4ca46d86577", func := "ziggurat/zigguratlaw30.StoreCanonical", spec := "storeCanonical", inPlace := ["internal/reflectlite.ValueOf", "(internal/reflectlite.Value).Type", "(internal/reflectlite.Value).IsNil", "internal/reflectlite.TypeOf", "(internal/reflectlite.Value).Elem", "(internal/reflectlite.Value).Set"], unfollowed := true, recurses := true, named := ["errors.errorType"], apart := false, laid := [("errors.errorType", laid_errors_errorType)], narrowed := true }
def StoreCanonicalUptoSaid : Prop := storeCanonicalUptoRow.holds Tryd.pinned (OpenSpec.upto storeCanonicalSpec)

/-- 'zigguratlaw30.StoreMended', WHERE WHAT IT READS IS OF BULK AT MOST 1048576: true; the input reads as it did. -/
def storeMendedUptoRow : OpenClaim := { program := "ytkeegknadegaaaadoor", sum := "991dbe4aefdbfe10950c3bd1bfcde46a6852e91957a564248cbbe4ca46d86577", func := "ziggurat/zigguratlaw30.StoreMended", spec := "storeMended", inPlace := ["internal/reflectlite.ValueOf", "(internal/reflectlite.Value).Type", "(internal/reflectlite.Value).IsNil", "internal/reflectlite.TypeOf", "(internal/reflectlite.Value).Elem", "(internal/reflectlite.Value).Set"], unfollowed := true, recurses := true, named := ["errors.errorType"], apart := false, laid := [("errors.errorType", laid_errors_errorType)], narrowed := true }
def StoreMendedUptoSaid : Prop := storeMendedUptoRow.holds Tryd.pinned (OpenSpec.upto storeMendedSpec)

/-- 'zigguratlaw30.StoreJoined', WHERE WHAT IT READS IS OF BULK AT MOST 1048576: true; the input reads as it did. -/
def storeJoinedUptoRow : OpenClaim := { program := "ytkeegknadegaaaadoor", sum := "991dbe4aefdbfe10950c3bd1bfcde46a6852e91957a564248cbbe4ca46d86577", func := "ziggurat/zigguratlaw30.StoreJoined", spec := "storeJoined", inPlace := ["internal/reflectlite.ValueOf", "(internal/reflectlite.Value).Type", "(internal/reflectlite.Value).IsNil", "internal/reflectlite.TypeOf", "(internal/reflectlite.Value).Elem", "(internal/reflectlite.Value).Set"], unfollowed := true, recurses := true, named := ["errors.errorType"], apart := false, laid := [("errors.errorType", laid_errors_errorType)], narrowed := true }
def StoreJoinedUptoSaid : Prop := storeJoinedUptoRow.holds Tryd.pinned (OpenSpec.upto storeJoinedSpec)

/-- 'zigguratlaw30.StoreSums', WHERE WHAT IT READS IS OF BULK AT MOST 1048576: true; the input reads as it did. -/
def storeSumsUptoRow : OpenClaim := { program := "ytkeegknadegaaaadoor", sum := "991dbe4aefdbfe10950c3bd1bfcde46a6852e91957a564248cbbe4ca46d86577", func := "ziggurat/zigguratlaw30.StoreSums", spec := "storeSums", inPlace := ["internal/reflectlite.ValueOf", "(internal/reflectlite.Value).Type", "(internal/reflectlite.Value).IsNil", "internal/reflectlite.TypeOf", "(internal/reflectlite.Value).Elem", "(internal/reflectlite.Value).Set"], unfollowed := true, recurses := true, named := ["errors.errorType"], apart := false, laid := [("errors.errorType", laid_errors_errorType)], narrowed := true }
def StoreSumsUptoSaid : Prop := storeSumsUptoRow.holds Tryd.pinned (OpenSpec.upto storeSumsSpec)

end Rows
end Go.Proofs.YtkeegknadegaaaaDoor
