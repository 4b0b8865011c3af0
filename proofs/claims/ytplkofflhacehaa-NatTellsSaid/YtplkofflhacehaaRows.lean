/-
  No cell of these rows narrows 'for every input' (looked for: loops, veiled, ifaces, maps, wideKeys, modest, calm, conditions, laid).
  DERIVED. THE GIVEN ROWS OF THIS SEAT. 9 by the template 'for every input the law returns true; each argument reads behind the call as it read before'; 0 by the template 'total and deterministic' (their statements: YtplkofflhacehaaTotals.lean).
  GIVEN WITH THE SEED: the statements are not yours to turn. If you find one false, say at which input.
  Laid BY PROGRAM, IN A SANDBOX (cutbox-rows.mjs): the forced cells as the released guide's own fill.sh prints them over the translation e673701b70585003… (all of the seat's roots in one cut). By AI agents, Wed Nov 11 2026. No macro, syntax, notation, axiom, sorry.
-/
import Derived.Test.YtplkofflhacehaaChecked
import GoSem.Claim
import GoSem.ClaimJoined
import GoSem.ClaimMapViews
import Derived.JoinedTies
import Derived.KernelRfl
namespace Go.Proofs.Ytplkofflhacehaa
/- THE CELL 'sum', in the pinned program and in every row, IS THE sha256 OF THE DUMP (.gsa) THAT YtplkofflhacehaaProg.lean LOADS. Nothing in Lean hashes anything: it is a label: what it is worth is what the hold of that sum in a sandbox is worth. -/
noncomputable def Try.pinned : Pinned := { name := "ytplkofflhacehaa", sum := "e673701b705850036c4fccdfb9c90cda9e589ecb29d2b7e839620cbf98eb0773", checked := Try.checked }
namespace Rows
def none {H : Type} : Left H := { results := [], args := [] }

/-- 'zigguratlaw01.NatTells': WHATEVER THE INPUT: true; the input reads as it did. -/
def natTellsSpec : ChangeSpec := { name := "natTells", fn := fun _ => fun
  | [d1, d2, d3] => { results := [.lit (.bool true)], args := [d1, d2, d3] }
  | _ => none }
def natTellsRow : OpenClaim := { program := "ytplkofflhacehaa", sum := "e673701b705850036c4fccdfb9c90cda9e589ecb29d2b7e839620cbf98eb0773", func := "ziggurat/zigguratlaw01.NatTells", spec := "natTells", unfollowed := true, recurses := true, apart := false }
def NatTellsSaid : Prop := natTellsRow.holds Try.pinned (OpenSpec.ofChange natTellsSpec)

/-- ITS FALSE NEIGHBOUR: 'it returns false'. Refute it at one input. -/
def natTellsWrong : ChangeSpec := { name := "natTells", fn := fun _ => fun
  | [d1, d2, d3] => { results := [.lit (.bool false)], args := [d1, d2, d3] }
  | _ => none }
def NatTellsWrongFalsely : Prop := natTellsRow.holds Try.pinned (OpenSpec.ofChange natTellsWrong)

/-- 'zigguratlaw01.NatSums': WHATEVER THE INPUT: true; the input reads as it did. -/
def natSumsSpec : ChangeSpec := { name := "natSums", fn := fun _ => fun
  | [d1, d2, d3] => { results := [.lit (.bool true)], args := [d1, d2, d3] }
  | _ => none }
def natSumsRow : OpenClaim := { program := "ytplkofflhacehaa", sum := "e673701b705850036c4fccdfb9c90cda9e589ecb29d2b7e839620cbf98eb0773", func := "ziggurat/zigguratlaw01.NatSums", spec := "natSums", unfollowed := true, recurses := true, apart := false }
def NatSumsSaid : Prop := natSumsRow.holds Try.pinned (OpenSpec.ofChange natSumsSpec)

/-- ITS FALSE NEIGHBOUR: 'it returns false'. Refute it at one input. -/
def natSumsWrong : ChangeSpec := { name := "natSums", fn := fun _ => fun
  | [d1, d2, d3] => { results := [.lit (.bool false)], args := [d1, d2, d3] }
  | _ => none }
def NatSumsWrongFalsely : Prop := natSumsRow.holds Try.pinned (OpenSpec.ofChange natSumsWrong)

/-- 'zigguratlaw01.NatTaken': WHATEVER THE INPUT: true; the input reads as it did. -/
def natTakenSpec : ChangeSpec := { name := "natTaken", fn := fun _ => fun
  | [d1, d2] => { results := [.lit (.bool true)], args := [d1, d2] }
  | _ => none }
def natTakenRow : OpenClaim := { program := "ytplkofflhacehaa", sum := "e673701b705850036c4fccdfb9c90cda9e589ecb29d2b7e839620cbf98eb0773", func := "ziggurat/zigguratlaw01.NatTaken", spec := "natTaken", unfollowed := true, recurses := true, apart := false }
def NatTakenSaid : Prop := natTakenRow.holds Try.pinned (OpenSpec.ofChange natTakenSpec)

/-- ITS FALSE NEIGHBOUR: 'it returns false'. Refute it at one input. -/
def natTakenWrong : ChangeSpec := { name := "natTaken", fn := fun _ => fun
  | [d1, d2] => { results := [.lit (.bool false)], args := [d1, d2] }
  | _ => none }
def NatTakenWrongFalsely : Prop := natTakenRow.holds Try.pinned (OpenSpec.ofChange natTakenWrong)

/-- 'zigguratlaw01.NatBits': WHATEVER THE INPUT: true; the input reads as it did. -/
def natBitsSpec : ChangeSpec := { name := "natBits", fn := fun _ => fun
  | [d1, d2] => { results := [.lit (.bool true)], args := [d1, d2] }
  | _ => none }
def natBitsRow : OpenClaim := { program := "ytplkofflhacehaa", sum := "e673701b705850036c4fccdfb9c90cda9e589ecb29d2b7e839620cbf98eb0773", func := "ziggurat/zigguratlaw01.NatBits", spec := "natBits", unfollowed := true, recurses := true, apart := false }
def NatBitsSaid : Prop := natBitsRow.holds Try.pinned (OpenSpec.ofChange natBitsSpec)

/-- ITS FALSE NEIGHBOUR: 'it returns false'. Refute it at one input. -/
def natBitsWrong : ChangeSpec := { name := "natBits", fn := fun _ => fun
  | [d1, d2] => { results := [.lit (.bool false)], args := [d1, d2] }
  | _ => none }
def NatBitsWrongFalsely : Prop := natBitsRow.holds Try.pinned (OpenSpec.ofChange natBitsWrong)

/-- 'zigguratlaw01.NatShifts': WHATEVER THE INPUT: true; the input reads as it did. -/
def natShiftsSpec : ChangeSpec := { name := "natShifts", fn := fun _ => fun
  | [d1, d2] => { results := [.lit (.bool true)], args := [d1, d2] }
  | _ => none }
def natShiftsRow : OpenClaim := { program := "ytplkofflhacehaa", sum := "e673701b705850036c4fccdfb9c90cda9e589ecb29d2b7e839620cbf98eb0773", func := "ziggurat/zigguratlaw01.NatShifts", spec := "natShifts", unfollowed := true, recurses := true, apart := false }
def NatShiftsSaid : Prop := natShiftsRow.holds Try.pinned (OpenSpec.ofChange natShiftsSpec)

/-- ITS FALSE NEIGHBOUR: 'it returns false'. Refute it at one input. -/
def natShiftsWrong : ChangeSpec := { name := "natShifts", fn := fun _ => fun
  | [d1, d2] => { results := [.lit (.bool false)], args := [d1, d2] }
  | _ => none }
def NatShiftsWrongFalsely : Prop := natShiftsRow.holds Try.pinned (OpenSpec.ofChange natShiftsWrong)

/-- 'zigguratlaw01.NatCut': WHATEVER THE INPUT: true; the input reads as it did. -/
def natCutSpec : ChangeSpec := { name := "natCut", fn := fun _ => fun
  | [d1, d2, d3] => { results := [.lit (.bool true)], args := [d1, d2, d3] }
  | _ => none }
def natCutRow : OpenClaim := { program := "ytplkofflhacehaa", sum := "e673701b705850036c4fccdfb9c90cda9e589ecb29d2b7e839620cbf98eb0773", func := "ziggurat/zigguratlaw01.NatCut", spec := "natCut", unfollowed := true, recurses := true, apart := false }
def NatCutSaid : Prop := natCutRow.holds Try.pinned (OpenSpec.ofChange natCutSpec)

/-- ITS FALSE NEIGHBOUR: 'it returns false'. Refute it at one input. -/
def natCutWrong : ChangeSpec := { name := "natCut", fn := fun _ => fun
  | [d1, d2, d3] => { results := [.lit (.bool false)], args := [d1, d2, d3] }
  | _ => none }
def NatCutWrongFalsely : Prop := natCutRow.holds Try.pinned (OpenSpec.ofChange natCutWrong)

/-- 'zigguratlaw01.NatOrder': WHATEVER THE INPUT: true; the input reads as it did. -/
def natOrderSpec : ChangeSpec := { name := "natOrder", fn := fun _ => fun
  | [d1, d2, d3] => { results := [.lit (.bool true)], args := [d1, d2, d3] }
  | _ => none }
def natOrderRow : OpenClaim := { program := "ytplkofflhacehaa", sum := "e673701b705850036c4fccdfb9c90cda9e589ecb29d2b7e839620cbf98eb0773", func := "ziggurat/zigguratlaw01.NatOrder", spec := "natOrder", unfollowed := true, recurses := true, apart := false }
def NatOrderSaid : Prop := natOrderRow.holds Try.pinned (OpenSpec.ofChange natOrderSpec)

/-- ITS FALSE NEIGHBOUR: 'it returns false'. Refute it at one input. -/
def natOrderWrong : ChangeSpec := { name := "natOrder", fn := fun _ => fun
  | [d1, d2, d3] => { results := [.lit (.bool false)], args := [d1, d2, d3] }
  | _ => none }
def NatOrderWrongFalsely : Prop := natOrderRow.holds Try.pinned (OpenSpec.ofChange natOrderWrong)

/-- 'zigguratlaw01.NatNumbers': WHATEVER THE INPUT: true; the input reads as it did. -/
def natNumbersSpec : ChangeSpec := { name := "natNumbers", fn := fun _ => fun
  | [d1, d2, d3] => { results := [.lit (.bool true)], args := [d1, d2, d3] }
  | _ => none }
def natNumbersRow : OpenClaim := { program := "ytplkofflhacehaa", sum := "e673701b705850036c4fccdfb9c90cda9e589ecb29d2b7e839620cbf98eb0773", func := "ziggurat/zigguratlaw01.NatNumbers", spec := "natNumbers", unfollowed := true, recurses := true, apart := false }
def NatNumbersSaid : Prop := natNumbersRow.holds Try.pinned (OpenSpec.ofChange natNumbersSpec)

/-- ITS FALSE NEIGHBOUR: 'it returns false'. Refute it at one input. -/
def natNumbersWrong : ChangeSpec := { name := "natNumbers", fn := fun _ => fun
  | [d1, d2, d3] => { results := [.lit (.bool false)], args := [d1, d2, d3] }
  | _ => none }
def NatNumbersWrongFalsely : Prop := natNumbersRow.holds Try.pinned (OpenSpec.ofChange natNumbersWrong)

/-- 'zigguratlaw01.NatCarry': WHATEVER THE INPUT: true; the input reads as it did. -/
def natCarrySpec : ChangeSpec := { name := "natCarry", fn := fun _ => fun
  | [d1, d2] => { results := [.lit (.bool true)], args := [d1, d2] }
  | _ => none }
def natCarryRow : OpenClaim := { program := "ytplkofflhacehaa", sum := "e673701b705850036c4fccdfb9c90cda9e589ecb29d2b7e839620cbf98eb0773", func := "ziggurat/zigguratlaw01.NatCarry", spec := "natCarry", unfollowed := true, recurses := true, apart := false }
def NatCarrySaid : Prop := natCarryRow.holds Try.pinned (OpenSpec.ofChange natCarrySpec)

/-- ITS FALSE NEIGHBOUR: 'it returns false'. Refute it at one input. -/
def natCarryWrong : ChangeSpec := { name := "natCarry", fn := fun _ => fun
  | [d1, d2] => { results := [.lit (.bool false)], args := [d1, d2] }
  | _ => none }
def NatCarryWrongFalsely : Prop := natCarryRow.holds Try.pinned (OpenSpec.ofChange natCarryWrong)

/- THE SECOND FORM. 'bulk': how many values and letters a reading holds, each counted each time it is reached (what is shared counts as often as it is met; a slice's spare places count too). A statement '..UptoSaid' is the law's where the arguments, and the package variables that the reading takes, are together of bulk at most 1048576: NARROWER than '..Said'. Prove '..Said' where nothing that the law and all that it calls make is longer than what came in: it says more and counts as full. Else prove '..UptoSaid'. A law counts once. -/
mutual
def uptoBulk {H : Type} : DataW H → Nat
  | .lit (.string bytes) => bytes.length + 1
  | .lit _ => 1
  | .nil => 1
  | .ptr d => uptoBulk d + 1
  | .slice elems spare => uptoBulkAll elems + uptoBulkAll spare + 1
  | .agg parts => uptoBulkAll parts + 1
  | .iface _ d => uptoBulk d + 1
  | .map entries => uptoBulkEntries entries + 1
  | .held _ => 1
def uptoBulkAll {H : Type} : List (DataW H) → Nat
  | [] => 0
  | d :: r => uptoBulk d + uptoBulkAll r
def uptoBulkEntries {H : Type} : List (Lit × DataW H) → Nat
  | [] => 0
  | x :: r => uptoBulkEntry x + uptoBulkEntries r
def uptoBulkEntry {H : Type} : Lit × DataW H → Nat
  | (.string bytes, d) => bytes.length + uptoBulk d + 1
  | (_, d) => uptoBulk d + 1
 end
def uptoSmall : (H : Type) → List (DataW H) → Bool := fun _ ds => decide (uptoBulkAll ds ≤ 1048576)
def OpenSpec.upto (s : _root_.Go.ChangeSpec) : _root_.Go.OpenSpec := { _root_.Go.OpenSpec.ofChange s with cond := some uptoSmall }

/-- 'zigguratlaw01.NatTells', WHERE WHAT IT READS IS OF BULK AT MOST 1048576: true; the input reads as it did. -/
def natTellsUptoRow : OpenClaim := { program := "ytplkofflhacehaa", sum := "e673701b705850036c4fccdfb9c90cda9e589ecb29d2b7e839620cbf98eb0773", func := "ziggurat/zigguratlaw01.NatTells", spec := "natTells", unfollowed := true, recurses := true, apart := false, narrowed := true }
def NatTellsUptoSaid : Prop := natTellsUptoRow.holds Try.pinned (OpenSpec.upto natTellsSpec)

/-- 'zigguratlaw01.NatSums', WHERE WHAT IT READS IS OF BULK AT MOST 1048576: true; the input reads as it did. -/
def natSumsUptoRow : OpenClaim := { program := "ytplkofflhacehaa", sum := "e673701b705850036c4fccdfb9c90cda9e589ecb29d2b7e839620cbf98eb0773", func := "ziggurat/zigguratlaw01.NatSums", spec := "natSums", unfollowed := true, recurses := true, apart := false, narrowed := true }
def NatSumsUptoSaid : Prop := natSumsUptoRow.holds Try.pinned (OpenSpec.upto natSumsSpec)

/-- 'zigguratlaw01.NatTaken', WHERE WHAT IT READS IS OF BULK AT MOST 1048576: true; the input reads as it did. -/
def natTakenUptoRow : OpenClaim := { program := "ytplkofflhacehaa", sum := "e673701b705850036c4fccdfb9c90cda9e589ecb29d2b7e839620cbf98eb0773", func := "ziggurat/zigguratlaw01.NatTaken", spec := "natTaken", unfollowed := true, recurses := true, apart := false, narrowed := true }
def NatTakenUptoSaid : Prop := natTakenUptoRow.holds Try.pinned (OpenSpec.upto natTakenSpec)

/-- 'zigguratlaw01.NatBits', WHERE WHAT IT READS IS OF BULK AT MOST 1048576: true; the input reads as it did. -/
def natBitsUptoRow : OpenClaim := { program := "ytplkofflhacehaa", sum := "e673701b705850036c4fccdfb9c90cda9e589ecb29d2b7e839620cbf98eb0773", func := "ziggurat/zigguratlaw01.NatBits", spec := "natBits", unfollowed := true, recurses := true, apart := false, narrowed := true }
def NatBitsUptoSaid : Prop := natBitsUptoRow.holds Try.pinned (OpenSpec.upto natBitsSpec)

/-- 'zigguratlaw01.NatShifts', WHERE WHAT IT READS IS OF BULK AT MOST 1048576: true; the input reads as it did. -/
def natShiftsUptoRow : OpenClaim := { program := "ytplkofflhacehaa", sum := "e673701b705850036c4fccdfb9c90cda9e589ecb29d2b7e839620cbf98eb0773", func := "ziggurat/zigguratlaw01.NatShifts", spec := "natShifts", unfollowed := true, recurses := true, apart := false, narrowed := true }
def NatShiftsUptoSaid : Prop := natShiftsUptoRow.holds Try.pinned (OpenSpec.upto natShiftsSpec)

/-- 'zigguratlaw01.NatCut', WHERE WHAT IT READS IS OF BULK AT MOST 1048576: true; the input reads as it did. -/
def natCutUptoRow : OpenClaim := { program := "ytplkofflhacehaa", sum := "e673701b705850036c4fccdfb9c90cda9e589ecb29d2b7e839620cbf98eb0773", func := "ziggurat/zigguratlaw01.NatCut", spec := "natCut", unfollowed := true, recurses := true, apart := false, narrowed := true }
def NatCutUptoSaid : Prop := natCutUptoRow.holds Try.pinned (OpenSpec.upto natCutSpec)

/-- 'zigguratlaw01.NatOrder', WHERE WHAT IT READS IS OF BULK AT MOST 1048576: true; the input reads as it did. -/
def natOrderUptoRow : OpenClaim := { program := "ytplkofflhacehaa", sum := "e673701b705850036c4fccdfb9c90cda9e589ecb29d2b7e839620cbf98eb0773", func := "ziggurat/zigguratlaw01.NatOrder", spec := "natOrder", unfollowed := true, recurses := true, apart := false, narrowed := true }
def NatOrderUptoSaid : Prop := natOrderUptoRow.holds Try.pinned (OpenSpec.upto natOrderSpec)

/-- 'zigguratlaw01.NatNumbers', WHERE WHAT IT READS IS OF BULK AT MOST 1048576: true; the input reads as it did. -/
def natNumbersUptoRow : OpenClaim := { program := "ytplkofflhacehaa", sum := "e673701b705850036c4fccdfb9c90cda9e589ecb29d2b7e839620cbf98eb0773", func := "ziggurat/zigguratlaw01.NatNumbers", spec := "natNumbers", unfollowed := true, recurses := true, apart := false, narrowed := true }
def NatNumbersUptoSaid : Prop := natNumbersUptoRow.holds Try.pinned (OpenSpec.upto natNumbersSpec)

/-- 'zigguratlaw01.NatCarry', WHERE WHAT IT READS IS OF BULK AT MOST 1048576: true; the input reads as it did. -/
def natCarryUptoRow : OpenClaim := { program := "ytplkofflhacehaa", sum := "e673701b705850036c4fccdfb9c90cda9e589ecb29d2b7e839620cbf98eb0773", func := "ziggurat/zigguratlaw01.NatCarry", spec := "natCarry", unfollowed := true, recurses := true, apart := false, narrowed := true }
def NatCarryUptoSaid : Prop := natCarryUptoRow.holds Try.pinned (OpenSpec.upto natCarrySpec)

end Rows
end Go.Proofs.Ytplkofflhacehaa
