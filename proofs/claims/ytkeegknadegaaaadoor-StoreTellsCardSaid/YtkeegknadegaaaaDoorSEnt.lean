/-
  Plain words on the first record of a log: the entry, or what is wrong.
-/
import Derived.Test.YtkeegknadegaaaaDoorHNum
namespace Go.Proofs.YtkeegknadegaaaaDoor.Q
open Go.RowKit Go.Proofs.YtkeegknadegaaaaDoor.S Go.Proofs.YtkeegknadegaaaaDoorW.PrintWords
set_option linter.unusedVariables false

/-- What the first record is: wrong, with an error; or an entry and how many bytes it has. -/
inductive Ent where
  | bad (c : Int)
  | good (n t : ByteArray) (k : Nat)
/-- The payload of m bytes. -/
def payOf (l : List Int) (m : Nat) : List Int := (l.take (4 + m)).drop 4
def namOf (p : List Int) : List Int := (p.take (1 + (rd p 0).toNat)).drop 1
def txtOf (p : List Int) : List Int := p.drop (1 + (rd p 0).toNat)
def mayN (n t : Nat) : Bool := decide (1 ≤ n) && (decide (n ≤ 20) && decide (t ≤ 20000))
def entryOf (l : List Int) : Ent :=
  if l.length < 4 then .bad 301
  else if l.length < 8 + (num4 l).toNat then .bad 301
  else if crc (l.take (4 + (num4 l).toNat)) ≠ num4 (l.drop (4 + (num4 l).toNat)) then .bad 300
  else if (num4 l).toNat = 0 then .bad 300
  else if (num4 l).toNat < 1 + (rd (payOf l (num4 l).toNat) 0).toNat then .bad 300
  else if mayN (rd (payOf l (num4 l).toNat) 0).toNat ((num4 l).toNat - 1 - (rd (payOf l (num4 l).toNat) 0).toNat) = false then .bad 300
  else .good (strOfNums (namOf (payOf l (num4 l).toNat))) (strOfNums (txtOf (payOf l (num4 l).toNat))) (8 + (num4 l).toNat)

/-- The entries from a place on, each with where its record ends; and what is wrong behind them (0: nothing). -/
abbrev RecG := ByteArray × ByteArray × Nat
def scan : Nat → List Int → Nat → List RecG × Int
  | 0, _, _ => ([], 0)
  | f + 1, l, p => if l.length ≤ p then ([], 0) else
    match entryOf (l.drop p) with
    | .bad c => ([], c)
    | .good n t k => ((n, t, p + k) :: (scan f l (p + k)).1, (scan f l (p + k)).2)
theorem entryOf_good {l : List Int} {n t : ByteArray} {k : Nat} (h : entryOf l = .good n t k) : 8 ≤ k ∧ k ≤ l.length := by
  unfold entryOf at h
  split at h
  · cases h
  split at h
  · cases h
  split at h
  · cases h
  split at h
  · cases h
  split at h
  · cases h
  split at h
  · cases h
  · injection h with h1 h2 h3
    omega
theorem entryOf_bad {l : List Int} {c : Int} (h : entryOf l = .bad c) : c ≠ 0 := by
  unfold entryOf at h
  split at h
  · injection h with h; omega
  split at h
  · injection h with h; omega
  split at h
  · injection h with h; omega
  split at h
  · injection h with h; omega
  split at h
  · injection h with h; omega
  split at h
  · injection h with h; omega
  · cases h

theorem scan_length : ∀ (f : Nat) (l : List Int) (p : Nat), p ≤ l.length → (scan f l p).1.length ≤ l.length - p
  | 0, _, _, _ => by simp [scan]
  | f + 1, l, p, hp => by
    simp only [scan]
    split
    · simp
    · cases h : entryOf (l.drop p) with
      | bad c => simp
      | good n t k =>
        have hk := entryOf_good h
        rw [List.length_drop] at hk
        have ih := scan_length f l (p + k) (by omega)
        simp only [List.length_cons]
        omega
theorem bytesB_take {l : List Int} (h : bytesB l = true) (n : Nat) : bytesB (l.take n) = true := by
  rw [bytesB_iff] at *; exact fun x hx => h x (List.mem_of_mem_take hx)
theorem bytesB_drop {l : List Int} (h : bytesB l = true) (n : Nat) : bytesB (l.drop n) = true := by
  rw [bytesB_iff] at *; exact fun x hx => h x (List.mem_of_mem_drop hx)
theorem payOf_length {l : List Int} {m : Nat} (h : 4 + m ≤ l.length) : (payOf l m).length = m := by
  simp only [payOf, List.length_drop, List.length_take]; omega
end Go.Proofs.YtkeegknadegaaaaDoor.Q
