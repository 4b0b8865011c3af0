/-
  Plain words on the sum of bytes (CRC-32): over bit vectors; what the machine's whole numbers make of them.
-/
import Derived.Laws.BitsLemmas
import Derived.RowKit
namespace Go.Proofs.YtkeegknadegaaaaDoor.S
open Go

def poly : BitVec 32 := 3988292384#32
/-- One step: a bit goes out below. -/
def stepB (c : BitVec 32) : BitVec 32 := (c >>> 1) ^^^ (if c.toNat % 2 = 1 then poly else 0#32)
def stepN : Nat → BitVec 32 → BitVec 32
  | 0, c => c
  | n + 1, c => stepB (stepN n c)
/-- The table's entry. -/
def tabB (x : Nat) : BitVec 32 := stepN 8 (BitVec.ofNat 32 x)
/-- One byte more. -/
def byteB (c : BitVec 32) (x : Nat) : BitVec 32 := (c >>> 8) ^^^ tabB ((c.toNat % 256) ^^^ x)
def runB (l : List Int) (c : BitVec 32) : BitVec 32 := l.foldl (fun c x => byteB c x.toNat) c
def crcB (l : List Int) : BitVec 32 := runB l (4294967295#32) ^^^ 4294967295#32
def crc (l : List Int) : Int := (crcB l).toNat

/-! ### what the machine's whole numbers make of them -/
theorem u32_wrap (n : Nat) (h : n < 4294967296) : IntKind.u32.wrap (n : Int) = n := by rw [IntKind.wrap_u32]; omega
theorem ofInt_toNat {n : Nat} (a : BitVec n) : BitVec.ofInt n (a.toNat : Int) = a := by
  rw [BitVec.ofInt_natCast]; simp
theorem ofNat_toNat_self' {n : Nat} (a : BitVec n) : BitVec.ofNat n a.toNat = a := by simp
theorem xor_u32 (a b : BitVec 32) : bits .xor .u32 (a.toNat : Int) (b.toNat : Int) = ((a ^^^ b).toNat : Int) := by
  simp only [bits, IntKind.bits, BitVec.ofInt_natCast, BitVec.ofNat_toNat, BitVec.setWidth_eq]
  exact u32_wrap _ (a ^^^ b).isLt
theorem and1_u32 (a : BitVec 32) : bits .and .u32 (a.toNat : Int) 1 = ((a.toNat % 2 : Nat) : Int) := by
  have h := (bits_nat .u32 32 (Nat.le_refl _) (fun n h0 h1 => by rw [IntKind.wrap_u32]; omega) a.toNat 1 a.isLt (by decide)).1
  have h1 : ((1 : Nat) : Int) = 1 := rfl
  rw [h1] at h
  rw [h, Nat.and_one_is_mod]
theorem xor_u8 (a b : Nat) (ha : a < 256) (hb : b < 256) : bits .xor .u8 (a : Int) (b : Int) = ((a ^^^ b : Nat) : Int) := by
  have e : bits .xor .u8 (a : Int) (b : Int) = IntKind.u8.wrap (((BitVec.ofNat 8 a ^^^ BitVec.ofNat 8 b : BitVec 8).toNat : Nat) : Int) := by
    simp only [bits, BitVec.ofInt_natCast]; rfl
  have ha' : a % 2 ^ 8 = a := by omega
  have hb' : b % 2 ^ 8 = b := by omega
  rw [e, BitVec.toNat_xor, BitVec.toNat_ofNat, BitVec.toNat_ofNat, ha', hb']
  have : a ^^^ b < 2 ^ 8 := Nat.xor_lt_two_pow (by omega) (by omega)
  rw [IntKind.wrap_u8]; omega
theorem shr1 (c : BitVec 32) : ((c >>> 1).toNat : Int) = (c.toNat : Int) / 2 := by simp [Nat.shiftRight_eq_div_pow]
theorem shr8 (c : BitVec 32) : ((c >>> 8).toNat : Int) = (c.toNat : Int) / 256 := by simp [Nat.shiftRight_eq_div_pow]
/-- The walk's step. -/
theorem step_int (c : BitVec 32) : bits .xor .u32 ((c.toNat : Int) / 2) (3988292384 * bits .and .u32 (c.toNat : Int) 1 % 4294967296) = ((stepB c).toNat : Int) := by
  rw [and1_u32, ← shr1]
  unfold stepB
  rcases Nat.mod_two_eq_zero_or_one c.toNat with h | h
  · rw [h, if_neg (by decide)]
    exact xor_u32 (c >>> 1) 0#32
  · rw [h, if_pos rfl]
    exact xor_u32 (c >>> 1) poly
theorem byte_int (c : BitVec 32) (x : Nat) (hx : x < 256) : bits .xor .u8 ((c.toNat : Int) % 256) (x : Int) = (((c.toNat % 256) ^^^ x : Nat) : Int) := by
  have := xor_u8 (c.toNat % 256) x (Nat.mod_lt _ (by decide)) hx
  rw [← this]; rfl
theorem byte_lt (c : BitVec 32) (x : Nat) (hx : x < 256) : (c.toNat % 256) ^^^ x < 256 := Nat.xor_lt_two_pow (n := 8) (Nat.mod_lt _ (by decide)) hx
theorem runB_snoc (l : List Int) (x : Int) (c : BitVec 32) : runB (l ++ [x]) c = byteB (runB l c) x.toNat := by simp [runB]
theorem runB_append (l m : List Int) (c : BitVec 32) : runB (l ++ m) c = runB m (runB l c) := by simp [runB]
theorem crc_range (l : List Int) : 0 ≤ crc l ∧ crc l < 4294967296 := by
  unfold crc; have := (crcB l).isLt; omega
end Go.Proofs.YtkeegknadegaaaaDoor.S
