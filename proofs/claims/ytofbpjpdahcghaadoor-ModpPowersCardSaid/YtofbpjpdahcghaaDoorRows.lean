/-
  NARROWER THAN 'FOR EVERY INPUT', by the rows' own cells (each row's printed sentence says how): ModpValues: laid · ModpDivided: laid · ModpGcd: laid · ModpPowers: laid.
  DERIVED. THE GIVEN ROWS OF THIS SEAT. 4 by the template 'for every input the law returns true; each argument reads behind the call as it read before'; 0 by the template 'total and deterministic' (their statements: YtofbpjpdahcghaaDoorTotals.lean).
  GIVEN WITH THE SEED: the statements are not yours to turn. If you find one false, say at which input.
  Laid BY PROGRAM, IN A SANDBOX (cutbox-rows.mjs): the forced cells as the released guide's own fill.sh prints them over the translation 400c1863ecf697cd… (all of the seat's roots in one cut). By AI agents, Wed Nov 11 2026. No macro, syntax, notation, axiom, sorry.
-/
import Derived.Test.YtofbpjpdahcghaaDoorChecked
import GoSem.Claim
import GoSem.ClaimJoined
import GoSem.ClaimMapViews
import Derived.JoinedTies
import Derived.KernelRfl
namespace Go.Proofs.YtofbpjpdahcghaaDoor
/- THE CELL 'sum', in the pinned program and in every row, IS THE sha256 OF THE DUMP (.gsa) THAT YtofbpjpdahcghaaDoorProg.lean LOADS. Nothing in Lean hashes anything: it is a label: what it is worth is what the hold of that sum in a sandbox is worth. -/
noncomputable def Tryd.pinned : Pinned := { name := "ytofbpjpdahcghaadoor", sum := "400c1863ecf697cd4b60a55fb242667d199d0fc44ce6b0fe66e0fd86893e88da", checked := Tryd.checked }
namespace Rows
def none {H : Type} : Left H := { results := [], args := [] }

/- WHAT THE LISTED PACKAGE-LEVEL VARIABLES READ AS WHEN THE CALL BEGINS. Each datum BY PROGRAM (the guide's laid-datum.mjs) off the statement by which the dump's own 'gosem.cut.vars' lays the variable. In a bare row this is a premise. The card (YtofbpjpdahcghaaDoorCards.lean) ties it to the program's text. -/
def laid_ziggurat_modp_ways {H : Type} : DataW H := .iface "func table" (.slice [.agg [.iface "func" (.lit (.string [122, 105, 103, 103, 117, 114, 97, 116, 47, 109, 111, 100, 112, 46, 119, 97, 121, 115, 36, 49])), .iface "func" (.lit (.string [122, 105, 103, 103, 117, 114, 97, 116, 47, 109, 111, 100, 112, 46, 109, 97, 116, 114, 105, 120]))], .agg [.iface "func" (.lit (.string [122, 105, 103, 103, 117, 114, 97, 116, 47, 109, 111, 100, 112, 46, 119, 97, 121, 115, 36, 50])), .iface "func" (.lit (.string [122, 105, 103, 103, 117, 114, 97, 116, 47, 109, 111, 100, 112, 46, 100, 101, 103, 114, 101, 101, 115]))]] [])

/-- 'zigguratlaw14.ModpValues': WHATEVER THE INPUT: true; the input reads as it did. -/
def modpValuesSpec : ChangeSpec := { name := "modpValues", fn := fun _ => fun
  | [d1, d2] => { results := [.lit (.bool true)], args := [d1, d2] }
  | _ => none }
def modpValuesRow : OpenClaim := { program := "ytofbpjpdahcghaadoor", sum := "400c1863ecf697cd4b60a55fb242667d199d0fc44ce6b0fe66e0fd86893e88da", func := "ziggurat/zigguratlaw14.ModpValues", spec := "modpValues", unfollowed := true, recurses := true, named := ["ziggurat/modp.ways", "math/bits.overflowError"], apart := false, laid := [("ziggurat/modp.ways", laid_ziggurat_modp_ways)] }
def ModpValuesSaid : Prop := modpValuesRow.holds Tryd.pinned (OpenSpec.ofChange modpValuesSpec)

/-- ITS FALSE NEIGHBOUR: 'it returns false'. Refute it at one input. -/
def modpValuesWrong : ChangeSpec := { name := "modpValues", fn := fun _ => fun
  | [d1, d2] => { results := [.lit (.bool false)], args := [d1, d2] }
  | _ => none }
def ModpValuesWrongFalsely : Prop := modpValuesRow.holds Tryd.pinned (OpenSpec.ofChange modpValuesWrong)

/-- 'zigguratlaw14.ModpDivided': WHATEVER THE INPUT: true; the input reads as it did. -/
def modpDividedSpec : ChangeSpec := { name := "modpDivided", fn := fun _ => fun
  | [d] => { results := [.lit (.bool true)], args := [d] }
  | _ => none }
def modpDividedRow : OpenClaim := { program := "ytofbpjpdahcghaadoor", sum := "400c1863ecf697cd4b60a55fb242667d199d0fc44ce6b0fe66e0fd86893e88da", func := "ziggurat/zigguratlaw14.ModpDivided", spec := "modpDivided", unfollowed := true, recurses := true, named := ["ziggurat/modp.ways", "math/bits.overflowError"], apart := false, laid := [("ziggurat/modp.ways", laid_ziggurat_modp_ways)] }
def ModpDividedSaid : Prop := modpDividedRow.holds Tryd.pinned (OpenSpec.ofChange modpDividedSpec)

/-- ITS FALSE NEIGHBOUR: 'it returns false'. Refute it at one input. -/
def modpDividedWrong : ChangeSpec := { name := "modpDivided", fn := fun _ => fun
  | [d] => { results := [.lit (.bool false)], args := [d] }
  | _ => none }
def ModpDividedWrongFalsely : Prop := modpDividedRow.holds Tryd.pinned (OpenSpec.ofChange modpDividedWrong)

/-- 'zigguratlaw14.ModpGcd': WHATEVER THE INPUT: true; the input reads as it did. -/
def modpGcdSpec : ChangeSpec := { name := "modpGcd", fn := fun _ => fun
  | [d] => { results := [.lit (.bool true)], args := [d] }
  | _ => none }
def modpGcdRow : OpenClaim := { program := "ytofbpjpdahcghaadoor", sum := "400c1863ecf697cd4b60a55fb242667d199d0fc44ce6b0fe66e0fd86893e88da", func := "ziggurat/zigguratlaw14.ModpGcd", spec := "modpGcd", unfollowed := true, recurses := true, named := ["ziggurat/modp.ways", "math/bits.overflowError"], apart := false, laid := [("ziggurat/modp.ways", laid_ziggurat_modp_ways)] }
def ModpGcdSaid : Prop := modpGcdRow.holds Tryd.pinned (OpenSpec.ofChange modpGcdSpec)

/-- ITS FALSE NEIGHBOUR: 'it returns false'. Refute it at one input. -/
def modpGcdWrong : ChangeSpec := { name := "modpGcd", fn := fun _ => fun
  | [d] => { results := [.lit (.bool false)], args := [d] }
  | _ => none }
def ModpGcdWrongFalsely : Prop := modpGcdRow.holds Tryd.pinned (OpenSpec.ofChange modpGcdWrong)

/-- 'zigguratlaw14.ModpPowers': WHATEVER THE INPUT: true; the input reads as it did. -/
def modpPowersSpec : ChangeSpec := { name := "modpPowers", fn := fun _ => fun
  | [d1, d2] => { results := [.lit (.bool true)], args := [d1, d2] }
  | _ => none }
def modpPowersRow : OpenClaim := { program := "ytofbpjpdahcghaadoor", sum := "400c1863ecf697cd4b60a55fb242667d199d0fc44ce6b0fe66e0fd86893e88da", func := "ziggurat/zigguratlaw14.ModpPowers", spec := "modpPowers", unfollowed := true, recurses := true, named := ["ziggurat/modp.ways", "math/bits.overflowError"], apart := false, laid := [("ziggurat/modp.ways", laid_ziggurat_modp_ways)] }
def ModpPowersSaid : Prop := modpPowersRow.holds Tryd.pinned (OpenSpec.ofChange modpPowersSpec)

/-- ITS FALSE NEIGHBOUR: 'it returns false'. Refute it at one input. -/
def modpPowersWrong : ChangeSpec := { name := "modpPowers", fn := fun _ => fun
  | [d1, d2] => { results := [.lit (.bool false)], args := [d1, d2] }
  | _ => none }
def ModpPowersWrongFalsely : Prop := modpPowersRow.holds Tryd.pinned (OpenSpec.ofChange modpPowersWrong)

/- THE SECOND FORM. 'bulk': how many values and letters a reading holds, each counted each time it is reached (what is shared counts as often as it is met; a slice's spare places count too). A statement '..UptoSaid' is the law's where the arguments, and the package variables that the reading takes, are together of bulk at most 1048576: NARROWER than '..Said'. Prove '..Said' where nothing that the law and all that it calls make is longer than what came in: it says more and counts as full. Else prove '..UptoSaid'. A law counts once. -/
mutual
def uptoBulk {H : Type} : DataW H → Nat
  | .lit (.string bytes) => bytes.length + 1
  | .lit _ => 1
  | .nil => 1
  | .ptr d => uptoBulk d + 1
  | .slice elems spare => uptoBulkAll elems + uptoBulkAll spare + 1
  | .agg parts => uptoBulkAll parts + 1
  | .iface _ d => uptoBulk d + 1
  | .map entries => uptoBulkEntries entries + 1
  | .held _ => 1
def uptoBulkAll {H : Type} : List (DataW H) → Nat
  | [] => 0
  | d :: r => uptoBulk d + uptoBulkAll r
def uptoBulkEntries {H : Type} : List (Lit × DataW H) → Nat
  | [] => 0
  | x :: r => uptoBulkEntry x + uptoBulkEntries r
def uptoBulkEntry {H : Type} : Lit × DataW H → Nat
  | (.string bytes, d) => bytes.length + uptoBulk d + 1
  | (_, d) => uptoBulk d + 1
 end
def uptoSmall : (H : Type) → List (DataW H) → Bool := fun _ ds => decide (uptoBulkAll ds ≤ 1048576)
def OpenSpec.upto (s : _root_.Go.ChangeSpec) : _root_.Go.OpenSpec := { _root_.Go.OpenSpec.ofChange s with cond := some uptoSmall }

/-- 'zigguratlaw14.ModpValues', WHERE WHAT IT READS IS OF BULK AT MOST 1048576: true; the input reads as it did. -/
def modpValuesUptoRow : OpenClaim := { program := "ytofbpjpdahcghaadoor", sum := "400c1863ecf697cd4b60a55fb242667d199d0fc44ce6b0fe66e0fd86893e88da", func := "ziggurat/zigguratlaw14.ModpValues", spec := "modpValues", unfollowed := true, recurses := true, named := ["ziggurat/modp.ways", "math/bits.overflowError"], apart := false, laid := [("ziggurat/modp.ways", laid_ziggurat_modp_ways)], narrowed := true }
def ModpValuesUptoSaid : Prop := modpValuesUptoRow.holds Tryd.pinned (OpenSpec.upto modpValuesSpec)

/-- 'zigguratlaw14.ModpDivided', WHERE WHAT IT READS IS OF BULK AT MOST 1048576: true; the input reads as it did. -/
def modpDividedUptoRow : OpenClaim := { program := "ytofbpjpdahcghaadoor", sum := "400c1863ecf697cd4b60a55fb242667d199d0fc44ce6b0fe66e0fd86893e88da", func := "ziggurat/zigguratlaw14.ModpDivided", spec := "modpDivided", unfollowed := true, recurses := true, named := ["ziggurat/modp.ways", "math/bits.overflowError"], apart := false, laid := [("ziggurat/modp.ways", laid_ziggurat_modp_ways)], narrowed := true }
def ModpDividedUptoSaid : Prop := modpDividedUptoRow.holds Tryd.pinned (OpenSpec.upto modpDividedSpec)

/-- 'zigguratlaw14.ModpGcd', WHERE WHAT IT READS IS OF BULK AT MOST 1048576: true; the input reads as it did. -/
def modpGcdUptoRow : OpenClaim := { program := "ytofbpjpdahcghaadoor", sum := "400c1863ecf697cd4b60a55fb242667d199d0fc44ce6b0fe66e0fd86893e88da", func := "ziggurat/zigguratlaw14.ModpGcd", spec := "modpGcd", unfollowed := true, recurses := true, named := ["ziggurat/modp.ways", "math/bits.overflowError"], apart := false, laid := [("ziggurat/modp.ways", laid_ziggurat_modp_ways)], narrowed := true }
def ModpGcdUptoSaid : Prop := modpGcdUptoRow.holds Tryd.pinned (OpenSpec.upto modpGcdSpec)

/-- 'zigguratlaw14.ModpPowers', WHERE WHAT IT READS IS OF BULK AT MOST 1048576: true; the input reads as it did. -/
def modpPowersUptoRow : OpenClaim := { program := "ytofbpjpdahcghaadoor", sum := "400c1863ecf697cd4b60a55fb242667d199d0fc44ce6b0fe66e0fd86893e88da", func := "ziggurat/zigguratlaw14.ModpPowers", spec := "modpPowers", unfollowed := true, recurses := true, named := ["ziggurat/modp.ways", "math/bits.overflowError"], apart := false, laid := [("ziggurat/modp.ways", laid_ziggurat_modp_ways)], narrowed := true }
def ModpPowersUptoSaid : Prop := modpPowersUptoRow.holds Tryd.pinned (OpenSpec.upto modpPowersSpec)

end Rows
end Go.Proofs.YtofbpjpdahcghaaDoor
