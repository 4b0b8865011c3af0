/-
  Plain words on records: a number's four bytes, an entry's record, what appending makes of a log.
-/
import Derived.Test.YtkeegknadegaaaaDoorHPut
import Derived.Test.YtkeegknadegaaaaDoorHSum
namespace Go.Proofs.YtkeegknadegaaaaDoor.Q
open Go.RowKit Go.Proofs.YtkeegknadegaaaaDoor.S Go.Proofs.YtkeegknadegaaaaDoorW.PrintWords
set_option linter.unusedVariables false

/-- A number's four bytes, the lowest first. -/
def fourL (x : Int) : List Int := [x % 256, x / 256 % 256, x / 65536 % 256, x / 16777216 % 256]
/-- A record ahead of its sum. -/
def bodyOf (n t : ByteArray) : List Int := fourL ((1 + n.size + t.size : Nat) : Int) ++ [(n.size : Int)] ++ bytesOf n ++ bytesOf t
def recOf (n t : ByteArray) : List Int := bodyOf n t ++ fourL (crc (bodyOf n t))
def mayB (n t : ByteArray) : Bool := decide (1 ≤ n.size) && (decide (n.size ≤ 20) && decide (t.size ≤ 20000))
theorem mayB_iff {n t : ByteArray} : mayB n t = true ↔ 1 ≤ n.size ∧ n.size ≤ 20 ∧ t.size ≤ 20000 := by simp [mayB]
def store_Append.f (l0 : List Int) (n t : ByteArray) : Option (List Int × Int) :=
  if mayB n t = true then (if l0.length ≤ 1000000000 then some (l0 ++ recOf n t, 0) else none) else some ([], 1)

theorem bytesOf_range (s : ByteArray) : bytesB (bytesOf s) = true := by
  rw [bytesB_iff]; intro x hx
  simp only [bytesOf, List.mem_map] at hx
  obtain ⟨b, _, rfl⟩ := hx
  have := b.toNat_lt
  omega
theorem bytesB_append {l m : List Int} : bytesB (l ++ m) = (bytesB l && bytesB m) := by simp [bytesB]
theorem fourL_range (x : Int) : bytesB (fourL x) = true := by
  rw [bytesB_iff]; intro y hy
  simp only [fourL, List.mem_cons, List.not_mem_nil, or_false] at hy
  rcases hy with rfl | rfl | rfl | rfl <;> omega
theorem fourL_length (x : Int) : (fourL x).length = 4 := rfl
theorem bodyOf_range (n t : ByteArray) (h : n.size < 256) : bytesB (bodyOf n t) = true := by
  simp only [bodyOf, bytesB_append, fourL_range, bytesOf_range, Bool.and_true, Bool.true_and]
  rw [bytesB_iff]; intro y hy
  simp only [List.mem_cons, List.not_mem_nil, or_false] at hy
  omega
theorem bodyOf_length (n t : ByteArray) : (bodyOf n t).length = 5 + n.size + t.size := by
  simp only [bodyOf, List.length_append, fourL_length, bytesOf_length, List.length_cons, List.length_nil]
theorem recOf_length (n t : ByteArray) : (recOf n t).length = 9 + n.size + t.size := by
  simp only [recOf, List.length_append, fourL_length, bodyOf_length]; omega
theorem recOf_range (n t : ByteArray) (h : n.size < 256) : bytesB (recOf n t) = true := by
  simp only [recOf, bytesB_append, fourL_range, bodyOf_range n t h, Bool.and_true]

theorem wrap64_small (x : Int) (h0 : 0 ≤ x) (h : x < 9223372036854775808) : wrap64 x = x := by unfold wrap64; omega
theorem put_is (l0 : List Int) (x : Int) (h : l0.length < 100000000000) : store_put.f 5 l0 x = some (l0 ++ fourL x) := by
  simp only [store_put.f, store_put.l0]
  rw [show wrap64 (0 + 1) = 1 by unfold wrap64; omega, show wrap64 (1 + 1) = 2 by unfold wrap64; omega, show wrap64 (2 + 1) = 3 by unfold wrap64; omega, show wrap64 (3 + 1) = 4 by unfold wrap64; omega]
  simp only [List.length_append, List.length_cons, List.length_nil]
  rw [if_pos (by omega), if_pos (by omega), if_pos (by omega), if_pos (by omega), if_pos (by omega), if_pos (by omega), if_pos (by omega), if_pos (by omega), if_neg (by omega)]
  simp only [fourL, List.append_assoc, List.cons_append, List.nil_append]
  rw [show x / 256 / 256 = x / 65536 by omega, show x / 65536 / 256 = x / 16777216 by omega]
end Go.Proofs.YtkeegknadegaaaaDoor.Q
