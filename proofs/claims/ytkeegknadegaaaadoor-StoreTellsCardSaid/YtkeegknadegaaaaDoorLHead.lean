/-
  The live questions' value, in plain words.
-/
import Derived.Test.YtkeegknadegaaaaDoorQ7
import Derived.Test.YtkeegknadegaaaaDoorLSame
namespace Go.Proofs.YtkeegknadegaaaaDoor.Q
open Go.RowKit Go.Proofs.YtkeegknadegaaaaDoor.S Go.Proofs.YtkeegknadegaaaaDoorW.PrintWords
set_option linter.unusedVariables false
set_option maxRecDepth 100000

def lg1 : List Int := [3, 0, 0, 0, 1, 97, 98, 70, 245, 28, 114]
theorem crc9 : crc [49, 50, 51, 52, 53, 54, 55, 56, 57] = 3421780262 := by kernel_rfl
theorem crc0 : crc [] = 0 := by kernel_rfl
theorem rec1 : recOf ⟨#[97]⟩ ⟨#[98]⟩ = lg1 := by kernel_rfl
theorem app1 : store_Append.f [] ⟨#[97]⟩ ⟨#[98]⟩ = some (lg1, 0) := by
  unfold store_Append.f
  rw [if_pos (by decide), if_pos (by decide), rec1]; rfl
theorem app2 : store_Append.f [] ⟨#[]⟩ ⟨#[98]⟩ = some ([], 1) := by
  unfold store_Append.f
  rw [if_neg (by decide)]
theorem ent1 : entryOf lg1 = .good ⟨#[97]⟩ ⟨#[98]⟩ 11 := by kernel_rfl
theorem scan1 : scan 12 lg1 0 = ([(⟨#[97]⟩, ⟨#[98]⟩, 11)], 0) := by kernel_rfl
theorem scan2 : scan 11 (lg1.take 10) 0 = ([], 301) := by kernel_rfl
theorem scan3 : scan 9 [0, 0, 0, 0, 28, 223, 68, 33] 0 = ([], 300) := by kernel_rfl
theorem read1 : store_Read.f lg1 = some ([⟨⟨#[97]⟩, ⟨#[98]⟩⟩], 11, 0) := by
  unfold store_Read.f
  rw [if_pos (by decide), show lg1.length + 1 = 12 from rfl, scan1]; rfl
theorem read2 : store_Read.f (lg1.take 10) = some ([], 0, 301) := by
  unfold store_Read.f
  rw [if_pos (by decide), show (lg1.take 10).length + 1 = 11 from rfl, scan2]; rfl
theorem read3 : store_Read.f [0, 0, 0, 0, 28, 223, 68, 33] = some ([], 0, 300) := by
  unfold store_Read.f
  rw [if_pos (by decide), show ([0, 0, 0, 0, 28, 223, 68, 33] : List Int).length + 1 = 9 from rfl, scan3]; rfl
theorem sum9 : store_Sum.f [49, 50, 51, 52, 53, 54, 55, 56, 57] = some 3421780262 := by
  unfold store_Sum.f
  rw [if_pos (by decide), crc9]
theorem sum0 : store_Sum.f [] = some 0 := by
  unfold store_Sum.f
  rw [if_pos (by decide), crc0]
theorem repair2 : store_Repair.f (lg1.take 10) = some [] := by
  unfold store_Repair.f
  rw [read2]; rfl
theorem head_true (k : Nat) : zigguratlaw30_head.f (k + 2) = some true := by
  unfold zigguratlaw30_head.f
  rw [app1]
  simp only [Option.bind_some]
  rw [app2]
  simp only [Option.bind_some]
  rw [if_pos (by decide), read1]
  simp only [Option.bind_some]
  rw [if_pos (by decide), read2]
  simp only [Option.bind_some]
  rw [read3]
  simp only [Option.bind_some]
  rw [sum9]
  simp only [Option.bind_some]
  rw [if_pos trivial, sum0]
  simp only [Option.bind_some]
  rw [if_pos trivial, if_pos trivial, if_pos trivial, if_pos (by decide), if_pos (by decide), if_pos (by decide), if_pos (by decide), if_pos (by decide), if_pos (by decide), if_pos (by decide), if_pos (by decide), if_pos (by decide), if_pos (by decide)]
  rw [same_self _ _ (by simp) (by simp)]
  simp only [Option.bind_some]
  rw [if_pos trivial, if_pos trivial, if_pos trivial, if_pos trivial, if_pos trivial, if_pos trivial, repair2]
  rfl
end Go.Proofs.YtkeegknadegaaaaDoor.Q
