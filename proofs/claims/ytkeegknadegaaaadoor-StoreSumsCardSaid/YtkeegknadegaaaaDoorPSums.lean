/-
  StoreSums in plain words.
-/
import Derived.Test.YtkeegknadegaaaaDoorQ16
import Derived.Test.YtkeegknadegaaaaDoorLHead
import Derived.Test.YtkeegknadegaaaaDoorSLin
namespace Go.Proofs.YtkeegknadegaaaaDoor.Q
open Go.RowKit Go.Proofs.YtkeegknadegaaaaDoor.S Go.Proofs.YtkeegknadegaaaaDoorW.PrintWords Go.Proofs.YtkeegknadegaaaaDoorW.PrintLast Go.Proofs.YtkeegknadegaaaaDoorW.PrintMore
set_option linter.unusedVariables false

def xorL (a b : List Int) : List Int := List.zipWith (fun x y => ((x.toNat ^^^ y.toNat : Nat) : Int)) a b
theorem xorL_take (a b : List Int) (i : Nat) (ha : i < a.length) (hb : i < b.length) : xorL (a.take (i + 1)) (b.take (i + 1)) = xorL (a.take i) (b.take i) ++ [((a[i].toNat ^^^ b[i].toNat : Nat) : Int)] := by
  unfold xorL
  rw [List.take_succ_eq_append_getElem ha, List.take_succ_eq_append_getElem hb, List.zipWith_append (by simp; omega)]
  rfl
theorem bytesB_of {l : List Int} (h : ∀ x ∈ l, (Lit.int .u8 x).wf = true) : bytesB l = true := by
  rw [bytesB_iff]
  intro x hx
  have := h x hx
  have h0 : IntKind.u8.min = 0 := rfl
  have h1 : IntKind.u8.max = 255 := rfl
  simp [Lit.wf, h0, h1] at this
  omega
theorem bytes_get {l : List Int} (h : bytesB l = true) (i : Nat) (hi : i < l.length) : 0 ≤ l[i] ∧ l[i] < 256 := by
  rw [bytesB_iff] at h
  exact h _ (List.getElem_mem hi)
theorem sum_is {l : List Int} (h : bytesB l = true) : store_Sum.f l = some (crc l) := by unfold store_Sum.f; rw [if_pos h]
theorem xorL_bytes {a b : List Int} (ha : bytesB a = true) (hb : bytesB b = true) : bytesB (xorL a b) = true := by
  rw [bytesB_iff] at *
  intro z hz
  unfold xorL at hz
  obtain ⟨i, hi, rfl⟩ := List.getElem_of_mem hz
  rw [List.length_zipWith] at hi
  rw [List.getElem_zipWith]
  have h1 := ha _ (List.getElem_mem (show i < a.length by omega))
  have h2 := hb _ (List.getElem_mem (show i < b.length by omega))
  have := Nat.xor_lt_two_pow (n := 8) (x := a[i].toNat) (y := b[i].toNat) (by omega) (by omega)
  omega
theorem zeros_bytes (n : Nat) : bytesB (List.replicate n 0) = true := by
  rw [bytesB_iff]; intro x hx; rw [List.mem_replicate] at hx; omega
theorem xorL_zeros (a : List Int) (h : ∀ x ∈ a, 0 ≤ x) : xorL a (List.replicate a.length 0) = a := by
  unfold xorL
  induction a with
  | nil => rfl
  | cons x a ih =>
    rw [List.length_cons, List.replicate_succ, List.zipWith_cons_cons, ih (fun z hz => h z (by simp [hz]))]
    have := h x (by simp)
    simp; omega
theorem crc_xor (a b : List Int) (hl : a.length = b.length) (ha : bytesB a = true) (hb : bytesB b = true) :
    crc (xorL a b) = bits .xor .u32 (bits .xor .u32 (crc a) (crc b)) (crc (List.replicate a.length 0)) := by
  have ha' : ∀ x ∈ a, 0 ≤ x := fun x hx => ((bytesB_iff.1 ha) x hx).1
  have hb' : ∀ x ∈ b, 0 ≤ x := fun x hx => ((bytesB_iff.1 hb) x hx).1
  unfold crc
  rw [xor_u32, xor_u32]
  congr 2
  unfold crcB
  have h1 := runB_zip a b 4294967295#32 4294967295#32 hl ha' hb'
  have hx : ∀ x ∈ xorL a b, 0 ≤ x := fun x hx => ((bytesB_iff.1 (xorL_bytes ha hb)) x hx).1
  have hlx : (xorL a b).length = a.length := by unfold xorL; rw [List.length_zipWith]; omega
  have h2 := runB_zip (xorL a b) (List.replicate a.length 0) (4294967295#32 ^^^ 4294967295#32) 4294967295#32 (by simp [hlx]) hx (by intro z hz; rw [List.mem_replicate] at hz; omega)
  have h3 : List.zipWith (fun x y => ((x.toNat ^^^ y.toNat : Nat) : Int)) (xorL a b) (List.replicate a.length (0 : Int)) = xorL a b := by
    have := xorL_zeros (xorL a b) hx
    rw [hlx] at this
    exact this
  rw [h3] at h2
  rw [show (4294967295#32 ^^^ 4294967295#32 : BitVec 32) ^^^ 4294967295#32 = 4294967295#32 by decide] at h2
  rw [h2]
  rw [show runB (xorL a b) (4294967295#32 ^^^ 4294967295#32) = runB a 4294967295#32 ^^^ runB b 4294967295#32 from h1]
  generalize runB a 4294967295#32 = A
  generalize runB b 4294967295#32 = B
  generalize runB (List.replicate a.length 0) 4294967295#32 = Z
  generalize 4294967295#32 = F
  rw [xor4 A F B F, BitVec.xor_self, BitVec.xor_zero]
  rw [BitVec.xor_assoc]
theorem sums_loop (l0 l1 : List Int) (a2 : Int) (t : Bool) (hl : l0.length ≤ 1000) (hl1 : l0.length ≤ l1.length) (hb0 : bytesB l0 = true) (hb1 : bytesB l1 = true) : ∀ (n k i : Nat), l0.length - i = n → i ≤ l0.length →
    zigguratlaw30_StoreSums.l0 (k + n) l0 l1 a2 t (xorL (l0.take i) (l1.take i)) (List.replicate i 0) (i : Int) = zigguratlaw30_StoreSums.l0 k l0 l1 a2 t (xorL l0 (l1.take l0.length)) (List.replicate l0.length 0) (l0.length : Int) := by
  intro n
  induction n with
  | zero =>
    intro k i hn hi
    obtain rfl : i = l0.length := by omega
    rw [List.take_length]; rfl
  | succ n ih =>
    intro k i hn hi
    have h0 : i < l0.length := by omega
    have h1 : i < l1.length := by omega
    rw [← ih k (i + 1) (by omega) (by omega)]
    rw [show k + (n + 1) = (k + n) + 1 by omega]
    conv => lhs; unfold zigguratlaw30_StoreSums.l0
    have hx : (xorL (l0.take i) (l1.take i)).length ≤ 1000 := by unfold xorL; rw [List.length_zipWith, List.length_take]; omega
    rw [if_pos (by omega), if_pos (by omega), if_pos (by omega), if_pos (by omega), if_pos (by rw [List.length_replicate]; omega)]
    have e0 : rd l0 (i : Int) = l0[i] := by simp [rd, List.getD, h0]
    have e1 : rd l1 (i : Int) = l1[i] := by simp [rd, List.getD, h1]
    have b0 := bytes_get hb0 i h0
    have b1 := bytes_get hb1 i h1
    have ex : Go.bits .xor .u8 l0[i] l1[i] = ((l0[i].toNat ^^^ l1[i].toNat : Nat) : Int) := by
      rw [← xor_u8 _ _ (by omega) (by omega), Int.toNat_of_nonneg b0.1, Int.toNat_of_nonneg b1.1]
    rw [e0, e1, ex, ← xorL_take l0 l1 i h0 h1, ← List.replicate_succ', show wrap64 ((i : Int) + 1) = ((i + 1 : Nat) : Int) by unfold wrap64; omega]
theorem xor_pow_ne (x b : Nat) : x ^^^ 2 ^ b ≠ x := by
  intro h
  have h1 := congrArg (x ^^^ ·) h
  simp only [← Nat.xor_assoc, Nat.xor_self, Nat.zero_xor] at h1
  have := Nat.two_pow_pos b
  omega
theorem set_split (l : List Int) (p : Nat) (hp : p < l.length) (y : Int) : l.set p y = l.take p ++ y :: l.drop (p + 1) ∧ l = l.take p ++ l[p] :: l.drop (p + 1) := by
  constructor
  · rw [List.set_eq_take_append_cons_drop, if_pos hp]
  · rw [← List.drop_eq_getElem_cons hp, List.take_append_drop]
theorem sums_pure (l0 l1 : List Int) (a2 : Int) (hb0 : bytesB l0 = true) (hb1 : bytesB l1 = true) (ha : 0 ≤ a2 ∧ a2 < 65536) : ∃ k, zigguratlaw30_StoreSums.f k l0 l1 a2 = some true := by
  refine ⟨(1 + l0.length) + 2, ?_⟩
  unfold zigguratlaw30_StoreSums.f
  rw [head_true]
  simp only [Option.bind_some]
  by_cases h1 : (l0.length : Int) > 1000
  · rw [if_pos h1]
  rw [if_neg h1]
  by_cases h2 : (l1.length : Int) < (l0.length : Int)
  · rw [if_pos h2]
  rw [if_neg h2]
  have hlen : l0.length ≤ 1000 := by omega
  have hle : l0.length ≤ l1.length := by omega
  have hlp := sums_loop l0 l1 a2 true hlen hle hb0 hb1 l0.length 3 0 (by omega) (by omega)
  rw [show 1 + l0.length + 2 = 3 + l0.length by omega]
  rw [show ((0 : Nat) : Int) = 0 from rfl] at hlp
  rw [show xorL (l0.take 0) (l1.take 0) = [] from rfl, show List.replicate 0 (0 : Int) = [] from rfl] at hlp
  rw [hlp]
  unfold zigguratlaw30_StoreSums.l0
  have hbt := bytesB_take hb1 l0.length
  have hlt : (l1.take l0.length).length = l0.length := by simp; omega
  rw [if_neg (by omega), sum_is hb0]
  simp only [Option.bind_some]
  rw [if_pos (by omega), if_pos (by omega), show ((l0.length : Int)).toNat = l0.length by omega, sum_is hbt]
  simp only [Option.bind_some]
  rw [sum_is (zeros_bytes _)]
  simp only [Option.bind_some]
  rw [sum_is (xorL_bytes hb0 hbt)]
  simp only [Option.bind_some]
  rw [if_pos (crc_xor l0 (l1.take l0.length) hlt.symm hb0 hbt)]
  by_cases h3 : (l0.length : Int) = 0
  · rw [if_pos h3]
  rw [if_neg h3]
  have w8 : wrap64 (8 * (l0.length : Int)) = 8 * (l0.length : Int) := by unfold wrap64; omega
  have wa : wrap64 a2 = a2 := by unfold wrap64; omega
  rw [w8, wa, if_neg (by omega)]
  simp only [List.nil_append, List.length_nil]
  rw [if_pos (by omega)]
  obtain ⟨q, hq⟩ : ∃ q, q = Int.tmod a2 (8 * (l0.length : Int)) := ⟨_, rfl⟩
  have hq0 : 0 ≤ q ∧ q < 8 * (l0.length : Int) := by
    rw [hq, Int.tmod_eq_emod_of_nonneg ha.1]
    exact ⟨Int.emod_nonneg _ (by omega), Int.emod_lt_of_pos _ (by omega)⟩
  rw [← hq]
  have hd : Int.tdiv q 8 = q / 8 := Int.tdiv_eq_ediv_of_nonneg hq0.1
  have hm : Int.tmod q 8 = q % 8 := Int.tmod_eq_emod_of_nonneg hq0.1
  have wd : wrap64 (q / 8) = q / 8 := by unfold wrap64; omega
  rw [hd, hm, wd]
  rw [if_pos (by omega), if_pos (by omega), if_pos (by omega), if_pos trivial]
  obtain ⟨p, hp⟩ : ∃ p : Nat, (p : Int) = q / 8 := ⟨(q / 8).toNat, by omega⟩
  obtain ⟨b, hb⟩ : ∃ b : Nat, (b : Int) = q % 8 := ⟨(q % 8).toNat, by omega⟩
  rw [← hp, ← hb]
  have hpl : p < l0.length := by omega
  have hb8 : b < 8 := by omega
  have er : rd l0 (p : Int) = l0[p] := by simp [rd, List.getD, hpl]
  have bp := bytes_get hb0 p hpl
  have hpow : 2 ^ b < 256 := Nat.pow_lt_pow_right (n := 8) (by decide) hb8
  have es : shl .u8 1 (b : Int) = ((2 ^ b : Nat) : Int) := by
    unfold shl
    rw [show min ((b : Int)).toNat IntKind.u8.bits = b by rw [show IntKind.u8.bits = 8 from rfl]; omega, IntKind.wrap_u8]
    have : (1 : Int) * 2 ^ b = ((2 ^ b : Nat) : Int) := by simp
    rw [this]
    exact Int.emod_eq_of_lt (Int.natCast_nonneg _) (by have := Int.ofNat_lt.2 hpow; exact this)
  have ex : Go.bits .xor .u8 l0[p] ((2 ^ b : Nat) : Int) = ((l0[p].toNat ^^^ 2 ^ b : Nat) : Int) := by
    rw [← xor_u8 _ _ (by omega) hpow, Int.toNat_of_nonneg bp.1]
  rw [er, es, ex, show ((p : Int)).toNat = p by omega]
  have hxl : l0[p].toNat ^^^ 2 ^ b < 256 := Nat.xor_lt_two_pow (n := 8) (by omega) hpow
  have hne : ((l0[p].toNat ^^^ 2 ^ b : Nat) : Int) ≠ l0[p] := by
    have := xor_pow_ne l0[p].toNat b
    omega
  obtain ⟨s1, s2⟩ := set_split l0 p hpl ((l0[p].toNat ^^^ 2 ^ b : Nat) : Int)
  have hbs : bytesB (l0.set p ((l0[p].toNat ^^^ 2 ^ b : Nat) : Int)) = true := by
    rw [bytesB_iff]
    intro x hx
    rcases List.mem_or_eq_of_mem_set hx with h | h
    · exact (bytesB_iff.1 hb0) x h
    · omega
  rw [sum_is hbs]
  simp only [Option.bind_some, Option.some.injEq, bne_iff_ne, ne_eq]
  intro e
  have := crc_other (l0.take p) (l0.drop (p + 1)) _ _ ⟨by omega, by omega⟩ bp hne
  rw [← s1, ← s2] at this
  exact this e
end Go.Proofs.YtkeegknadegaaaaDoor.Q
namespace Go.Proofs.YtkeegknadegaaaaDoor.storeSums
open Go.RowKit Go.Proofs.YtkeegknadegaaaaDoor.Q
theorem pure : zigguratlaw30_StoreSums.Pure := fun l0 l1 a2 _ _ h0 _ _ h1 h2 => sums_pure l0 l1 a2 (bytesB_of h0) (bytesB_of h1) (by
  have e0 : IntKind.u16.min = 0 := rfl
  have e1 : IntKind.u16.max = 65535 := rfl
  simp [Lit.wf, e0, e1] at h2
  omega)
end Go.Proofs.YtkeegknadegaaaaDoor.storeSums
