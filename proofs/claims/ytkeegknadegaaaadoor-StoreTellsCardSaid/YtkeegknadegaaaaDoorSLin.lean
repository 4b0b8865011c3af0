/-
  The sum of bytes keeps to differences, and tells each step's state.
-/
import Derived.Test.YtkeegknadegaaaaDoorSCore
namespace Go.Proofs.YtkeegknadegaaaaDoor.S
open Go
set_option linter.unusedVariables false

theorem xor4 {n : Nat} (a b c d : BitVec n) : (a ^^^ b) ^^^ (c ^^^ d) = (a ^^^ c) ^^^ (b ^^^ d) := by
  rw [BitVec.xor_assoc, ← BitVec.xor_assoc b c d, BitVec.xor_comm b c, BitVec.xor_assoc c b d, ← BitVec.xor_assoc a c]
theorem mod2_xor (a b : Nat) : (a ^^^ b) % 2 = (a % 2 + b % 2) % 2 := by
  have h := Nat.xor_mod_two_pow (a := a) (b := b) (n := 1)
  simp only [Nat.pow_one] at h
  rw [h]
  rcases Nat.mod_two_eq_zero_or_one a with ha | ha <;> rcases Nat.mod_two_eq_zero_or_one b with hb | hb <;> rw [ha, hb] <;> rfl
theorem stepB_xor (a b : BitVec 32) : stepB (a ^^^ b) = stepB a ^^^ stepB b := by
  unfold stepB
  have hm : (a ^^^ b).toNat % 2 = (a.toNat % 2 + b.toNat % 2) % 2 := by rw [BitVec.toNat_xor]; exact mod2_xor _ _
  rw [hm]
  have hs : (a ^^^ b) >>> 1 = (a >>> 1) ^^^ (b >>> 1) := by
    apply BitVec.eq_of_toNat_eq
    simp [Nat.shiftRight_xor_distrib]
  rw [hs, xor4]
  congr 1
  rcases Nat.mod_two_eq_zero_or_one a.toNat with ha | ha <;> rcases Nat.mod_two_eq_zero_or_one b.toNat with hb | hb <;> rw [ha, hb] <;> simp
theorem stepN_xor (n : Nat) (a b : BitVec 32) : stepN n (a ^^^ b) = stepN n a ^^^ stepN n b := by
  induction n with
  | zero => rfl
  | succ n ih => simp only [stepN]; rw [ih, stepB_xor]
theorem stepB_even {c : BitVec 32} {m : Nat} (h : c.toNat = 2 * m) : (stepB c).toNat = m := by
  unfold stepB
  rw [if_neg (by omega)]
  simp [Nat.shiftRight_eq_div_pow]
  omega
theorem stepN_succ' (n : Nat) (c : BitVec 32) : stepN (n + 1) c = stepN n (stepB c) := by
  induction n with
  | zero => rfl
  | succ n ih => rw [stepN, ih]; rfl
theorem stepN_even : ∀ (n : Nat) {c : BitVec 32} {m : Nat}, c.toNat = 2 ^ n * m → (stepN n c).toNat = m
  | 0, c, m, h => by simpa [stepN] using h
  | n + 1, c, m, h => by
    rw [stepN_succ']
    exact stepN_even n (stepB_even (by rw [h, Nat.pow_succ, Nat.mul_comm (2 ^ n) 2, Nat.mul_assoc]))
theorem tab_xor (x y : Nat) : tabB (x ^^^ y) = tabB x ^^^ tabB y := by
  unfold tabB
  rw [← stepN_xor]
  congr 1
  apply BitVec.eq_of_toNat_eq
  rw [BitVec.toNat_xor, BitVec.toNat_ofNat, BitVec.toNat_ofNat, BitVec.toNat_ofNat, Nat.xor_mod_two_pow]
theorem xor_mod256 (a b : Nat) : (a ^^^ b) % 256 = (a % 256) ^^^ (b % 256) := Nat.xor_mod_two_pow (n := 8)
theorem byteB_xor (c d : BitVec 32) (x y : Nat) : byteB (c ^^^ d) (x ^^^ y) = byteB c x ^^^ byteB d y := by
  unfold byteB
  have hs : (c ^^^ d) >>> 8 = (c >>> 8) ^^^ (d >>> 8) := by
    apply BitVec.eq_of_toNat_eq
    simp [Nat.shiftRight_xor_distrib]
  have e : ((c ^^^ d).toNat % 256) ^^^ (x ^^^ y) = ((c.toNat % 256) ^^^ x) ^^^ ((d.toNat % 256) ^^^ y) := by
    rw [BitVec.toNat_xor, xor_mod256]
    rw [Nat.xor_assoc, ← Nat.xor_assoc (d.toNat % 256) x y, Nat.xor_comm (d.toNat % 256) x, Nat.xor_assoc x, ← Nat.xor_assoc (c.toNat % 256)]
  rw [hs, e, tab_xor, xor4]
/-- A byte more is eight steps. -/
theorem byteB_steps (c : BitVec 32) (x : Nat) : byteB c x = stepN 8 (c ^^^ BitVec.ofNat 32 x) := by
  have hc : c = BitVec.ofNat 32 (256 * (c.toNat / 256)) ^^^ BitVec.ofNat 32 (c.toNat % 256) := by
    apply BitVec.eq_of_toNat_eq
    rw [BitVec.toNat_xor, BitVec.toNat_ofNat, BitVec.toNat_ofNat]
    have h1 := c.isLt
    rw [Nat.mod_eq_of_lt (by omega), Nat.mod_eq_of_lt (by omega)]
    have h2 := Nat.two_pow_add_eq_or_of_lt (i := 8) (b := c.toNat % 256) (by omega) (c.toNat / 256)
    have h3 : 2 ^ 8 * (c.toNat / 256) ^^^ c.toNat % 256 = 2 ^ 8 * (c.toNat / 256) ||| c.toNat % 256 := by
      apply Nat.eq_of_testBit_eq
      intro i
      rw [Nat.testBit_xor, Nat.testBit_or]
      by_cases hi : i < 8
      · have : (2 ^ 8 * (c.toNat / 256)).testBit i = false := by rw [Nat.testBit_two_pow_mul]; simp; omega
        rw [this]; simp
      · have : (c.toNat % 256).testBit i = false := Nat.testBit_lt_two_pow (Nat.lt_of_lt_of_le (Nat.mod_lt _ (by decide)) (Nat.pow_le_pow_right (n := 2) (by decide) (show 8 ≤ i by omega)))
        rw [this]; simp
    rw [show (256 : Nat) = 2 ^ 8 from rfl] at *
    rw [h3, ← h2]; omega
  unfold byteB tabB
  have hx : BitVec.ofNat 32 ((c.toNat % 256) ^^^ x) = BitVec.ofNat 32 (c.toNat % 256) ^^^ BitVec.ofNat 32 x := by
    apply BitVec.eq_of_toNat_eq
    rw [BitVec.toNat_xor, BitVec.toNat_ofNat, BitVec.toNat_ofNat, BitVec.toNat_ofNat, Nat.xor_mod_two_pow]
  have hh : c >>> 8 = stepN 8 (BitVec.ofNat 32 (256 * (c.toNat / 256))) := by
    apply BitVec.eq_of_toNat_eq
    have h1 := c.isLt
    rw [stepN_even 8 (m := c.toNat / 256) (by rw [BitVec.toNat_ofNat]; omega)]
    simp [Nat.shiftRight_eq_div_pow]
  rw [hh, hx, ← stepN_xor, ← BitVec.xor_assoc, ← hc]

theorem stepB_zero {c : BitVec 32} (h : stepB c = 0#32) : c = 0#32 := by
  have hn := congrArg BitVec.toNat h
  unfold stepB at h
  rcases Nat.mod_two_eq_zero_or_one c.toNat with h2 | h2
  · have := stepB_even (c := c) (m := c.toNat / 2) (by omega)
    rw [hn] at this
    apply BitVec.eq_of_toNat_eq
    simp at this ⊢
    omega
  · rw [if_pos h2] at h
    have h3 : c >>> 1 = poly := by
      have := congrArg (· ^^^ poly) h
      simpa [BitVec.xor_assoc] using this
    have h4 := congrArg BitVec.toNat h3
    have h5 := c.isLt
    simp [Nat.shiftRight_eq_div_pow, poly] at h4
    omega
theorem xor_zero_eq {n : Nat} {a b : BitVec n} (h : a ^^^ b = 0#n) : a = b := by
  have := congrArg (· ^^^ b) h
  simpa [BitVec.xor_assoc] using this
theorem stepB_inj {a b : BitVec 32} (h : stepB a = stepB b) : a = b := by
  refine xor_zero_eq (stepB_zero ?_)
  rw [stepB_xor, h]; simp
theorem stepN_inj : ∀ (n : Nat) {a b : BitVec 32}, stepN n a = stepN n b → a = b
  | 0, _, _, h => h
  | n + 1, _, _, h => stepN_inj n (stepB_inj h)
theorem byteB_inj {c d : BitVec 32} {x : Nat} (h : byteB c x = byteB d x) : c = d := by
  rw [byteB_steps, byteB_steps] at h
  have := congrArg (· ^^^ BitVec.ofNat 32 x) (stepN_inj 8 h)
  simpa [BitVec.xor_assoc] using this
theorem byteB_ne {c : BitVec 32} {x y : Nat} (hx : x < 256) (hy : y < 256) (h : byteB c x = byteB c y) : x = y := by
  rw [byteB_steps, byteB_steps] at h
  have h1 := congrArg (c ^^^ ·) (stepN_inj 8 h)
  simp only [← BitVec.xor_assoc, BitVec.xor_self, BitVec.zero_xor] at h1
  have := congrArg BitVec.toNat h1
  simp at this
  omega
theorem runB_inj : ∀ (l : List Int) {c d : BitVec 32}, runB l c = runB l d → c = d
  | [], _, _, h => h
  | x :: l, _, _, h => byteB_inj (runB_inj l h)
theorem crcB_eq {l m : List Int} : crc l = crc m ↔ runB l 4294967295#32 = runB m 4294967295#32 := by
  unfold crc crcB
  constructor
  · intro h
    have h1 : (runB l 4294967295#32 ^^^ 4294967295#32).toNat = (runB m 4294967295#32 ^^^ 4294967295#32).toNat := by omega
    have h2 := congrArg (· ^^^ 4294967295#32) (BitVec.eq_of_toNat_eq h1)
    simpa [BitVec.xor_assoc] using h2
  · intro h; rw [h]
/-- A text of another byte has another sum. -/
theorem crc_other (pre post : List Int) (x y : Int) (hx : 0 ≤ x ∧ x < 256) (hy : 0 ≤ y ∧ y < 256) (hne : x ≠ y) : crc (pre ++ x :: post) ≠ crc (pre ++ y :: post) := by
  intro h
  rw [crcB_eq, runB_append, runB_append] at h
  have h1 := runB_inj post (show runB post (byteB _ _) = runB post (byteB _ _) from h)
  have := byteB_ne (by omega) (by omega) h1
  omega
/-- The sum of differences. -/
theorem runB_zip : ∀ (l m : List Int) (c d : BitVec 32), l.length = m.length → (∀ x ∈ l, 0 ≤ x) → (∀ x ∈ m, 0 ≤ x) →
    runB (List.zipWith (fun x y => ((x.toNat ^^^ y.toNat : Nat) : Int)) l m) (c ^^^ d) = runB l c ^^^ runB m d
  | [], [], _, _, _, _, _ => rfl
  | x :: l, y :: m, c, d, h, hl, hm => by
    have ih := runB_zip l m (byteB c x.toNat) (byteB d y.toNat) (by simpa using h) (fun z hz => hl z (by simp [hz])) (fun z hz => hm z (by simp [hz]))
    rw [← byteB_xor] at ih
    exact ih
  | [], _ :: _, _, _, h, _, _ => by simp at h
  | _ :: _, [], _, _, h, _, _ => by simp at h
end Go.Proofs.YtkeegknadegaaaaDoor.S
