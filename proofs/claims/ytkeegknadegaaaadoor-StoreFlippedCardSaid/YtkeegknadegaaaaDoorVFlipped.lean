/-
  StoreFlipped in plain words: where one byte of a payload, or of a sum, is another one, that record's sum is wrong; all ahead of it are told.
-/
import Derived.Test.YtkeegknadegaaaaDoorQ26
import Derived.Test.YtkeegknadegaaaaDoorLHead
import Derived.Test.YtkeegknadegaaaaDoorLMade
import Derived.Test.YtkeegknadegaaaaDoorRows
import Derived.Test.YtkeegknadegaaaaDoorHLaid
import Derived.Test.YtkeegknadegaaaaDoorHRow24
import Derived.WalkKit
import Derived.ProofKit
import Derived.OpenShut
import Derived.ShutString
import Derived.ChangeOld
import Derived.Below
import Derived.SizedLaws
import Derived.WideKeyPair
import Derived.Test.YtkeegknadegaaaaDoorWSized
import Derived.Test.YtkeegknadegaaaaDoorTie
import Derived.Test.YtkeegknadegaaaaDoorCards
import Derived.SevenTiedAt
namespace Go.Proofs.YtkeegknadegaaaaDoor.Q
open Go.RowKit Go.Proofs.YtkeegknadegaaaaDoor.S Go.Proofs.YtkeegknadegaaaaDoorW.PrintWords Go.Proofs.YtkeegknadegaaaaDoorW.PrintLast Go.Proofs.YtkeegknadegaaaaDoorW.PrintMore
set_option linter.unusedVariables false

theorem rd_get (l : List Int) (i : Nat) (h : i < l.length) : rd l (i : Int) = l[i] := by simp [rd, List.getD, h]
theorem set_splits (l : List Int) (p : Nat) (hp : p < l.length) (y : Int) : l.set p y = l.take p ++ y :: l.drop (p + 1) ∧ l = l.take p ++ l[p] :: l.drop (p + 1) := by
  constructor
  · rw [List.set_eq_take_append_cons_drop, if_pos hp]
  · rw [← List.drop_eq_getElem_cons hp, List.take_append_drop]
theorem crc_set (l : List Int) (p : Nat) (hp : p < l.length) (y : Int) (hb : bytesB l = true) (hy : 0 ≤ y ∧ y < 256) (hne : y ≠ l[p]) : crc (l.set p y) ≠ crc l := by
  obtain ⟨h1, h2⟩ := set_splits l p hp y
  have hx := (bytesB_iff.1 hb) l[p] (List.getElem_mem hp)
  have := crc_other (l.take p) (l.drop (p + 1)) y l[p] hy hx hne
  rw [h1]
  intro e
  exact this (e.trans (congrArg crc h2))
theorem num4_set (x : Int) (r : Nat) (hr : r < 4) (y : Int) (hy : 0 ≤ y ∧ y < 256) (hx : 0 ≤ x ∧ x < 4294967296) (hne : y ≠ (fourL x)[r]'hr) (rest : List Int) : num4 ((fourL x).set r y ++ rest) ≠ x := by
  rw [num4_app _ _ (by rw [List.length_set, fourL_length]; omega), num4_eq]
  match r, hr, hne with
  | 0, _, hne =>
    have h : y ≠ x % 256 := hne
    show y + 256 * (x / 256 % 256) + 65536 * (x / 65536 % 256) + 16777216 * (x / 16777216 % 256) ≠ x
    omega
  | 1, _, hne =>
    have h : y ≠ x / 256 % 256 := hne
    show x % 256 + 256 * y + 65536 * (x / 65536 % 256) + 16777216 * (x / 16777216 % 256) ≠ x
    omega
  | 2, _, hne =>
    have h : y ≠ x / 65536 % 256 := hne
    show x % 256 + 256 * (x / 256 % 256) + 65536 * y + 16777216 * (x / 16777216 % 256) ≠ x
    omega
  | 3, _, hne =>
    have h : y ≠ x / 16777216 % 256 := hne
    show x % 256 + 256 * (x / 256 % 256) + 65536 * (x / 65536 % 256) + 16777216 * y ≠ x
    omega
/-- A record with one byte of its payload, or of its sum, another one. -/
theorem entryOf_flip (n t : ByteArray) (rest : List Int) (hm : mayB n t = true) (r : Nat) (hr : 4 + r < (recOf n t).length) (y : Int) (hy : 0 ≤ y ∧ y < 256) (hne : y ≠ (recOf n t)[4 + r]) :
    entryOf ((recOf n t).set (4 + r) y ++ rest) = .bad 300 := by
  have hl := recOf_length n t
  have hbl := bodyOf_length n t
  have hmb := mayB_iff.1 hm
  have hcr := crc_range (bodyOf n t)
  obtain ⟨B, hB⟩ : ∃ B, B = bodyOf n t := ⟨_, rfl⟩
  have hbB : bytesB B = true := by rw [hB]; exact bodyOf_range n t (by omega)
  have hN0 : num4 B = ((1 + n.size + t.size : Nat) : Int) := by
    rw [hB]
    unfold bodyOf
    simp only [List.append_assoc]
    exact num4_four_app _ _ (by omega) (by omega)
  have hrec : recOf n t = B ++ fourL (crc B) := by rw [hB]; rfl
  rw [← hB] at hbl hcr
  have hN : num4 ((recOf n t).set (4 + r) y ++ rest) = ((1 + n.size + t.size : Nat) : Int) := by
    have h1 : (recOf n t).set (4 + r) y = (recOf n t).take 4 ++ ((recOf n t).drop 4).set r y := by
      conv => lhs; rw [← List.take_append_drop 4 (recOf n t)]
      rw [List.set_append, List.length_take, if_neg (by omega), show 4 + r - min 4 (recOf n t).length = r by omega]
    have h2 : (recOf n t).take 4 = B.take 4 := by rw [hrec, List.take_append_of_le_length (by omega)]
    rw [h1, List.append_assoc, num4_app _ _ (by rw [List.length_take]; omega), h2]
    have h3 := num4_app (B.take 4) (B.drop 4) (by rw [List.length_take]; omega)
    rw [List.take_append_drop] at h3
    rw [← h3, hN0]
  have hNt : (num4 ((recOf n t).set (4 + r) y ++ rest)).toNat = 1 + n.size + t.size := by rw [hN]; omega
  have hlen : ((recOf n t).set (4 + r) y ++ rest).length = 9 + n.size + t.size + rest.length := by rw [List.length_append, List.length_set, hl]
  unfold entryOf
  rw [hNt, hlen, if_neg (by omega), if_neg (by omega), if_pos ?_]
  by_cases hin : 4 + r < B.length
  · have e1 : (recOf n t).set (4 + r) y = B.set (4 + r) y ++ fourL (crc B) := by rw [hrec, List.set_append, if_pos hin]
    have hne' : y ≠ B[4 + r] := by
      intro e
      apply hne
      rw [e]
      simp only [hrec]
      rw [List.getElem_append_left hin]
    have et : ((recOf n t).set (4 + r) y ++ rest).take (4 + (1 + n.size + t.size)) = B.set (4 + r) y := by
      rw [e1, List.append_assoc, List.take_append_of_le_length (by rw [List.length_set]; omega), List.take_of_length_le (by rw [List.length_set]; omega)]
    have ed : ((recOf n t).set (4 + r) y ++ rest).drop (4 + (1 + n.size + t.size)) = fourL (crc B) ++ rest := by
      rw [e1, List.append_assoc, List.drop_append_of_le_length (by rw [List.length_set]; omega), List.drop_of_length_le (by rw [List.length_set]; omega)]
      rfl
    rw [et, ed, num4_four_app _ _ hcr.1 hcr.2]
    exact crc_set B (4 + r) hin y hbB hy hne'
  · have hq : 4 + r - B.length < 4 := by omega
    have e1 : (recOf n t).set (4 + r) y = B ++ (fourL (crc B)).set (4 + r - B.length) y := by rw [hrec, List.set_append, if_neg hin]
    have hne' : y ≠ (fourL (crc B))[4 + r - B.length]'hq := by
      intro e
      apply hne
      rw [e]
      simp only [hrec]
      rw [List.getElem_append_right (by omega)]
      rfl
    have et : ((recOf n t).set (4 + r) y ++ rest).take (4 + (1 + n.size + t.size)) = B := by
      rw [e1, List.append_assoc, List.take_append_of_le_length (by omega), List.take_of_length_le (by omega)]
    have ed : ((recOf n t).set (4 + r) y ++ rest).drop (4 + (1 + n.size + t.size)) = (fourL (crc B)).set (4 + r - B.length) y ++ rest := by
      rw [e1, List.append_assoc, List.drop_append_of_le_length (by omega), List.drop_of_length_le (by omega)]
      rfl
    rw [et, ed]
    exact fun e => num4_set (crc B) _ hq y hy hcr hne' rest e.symm
theorem mayAll_takes {m : List S24} (h : mayAll m) (i : Nat) : mayAll (m.take i) := fun x hx => h x (List.mem_of_mem_take hx)
theorem written_takes (m : List S24) (hm : mayAll m) (hl : (logOf m).length ≤ 1000000000) (hc : m.length ≤ 12) (i k : Nat) (hk : 12 < k) : zigguratlaw30_written.f k (m.take i) = some (logOf (m.take i), true) :=
  written_is _ (mayAll_takes hm i) (by have := logOf_take_le m i; omega) (by rw [List.length_take]; omega) k (by rw [List.length_take]; omega)
theorem xor_ne (x a : Int) (hx : 0 ≤ x ∧ x < 256) (ha : 0 ≤ a ∧ a < 256) (hne : a ≠ 0) : 0 ≤ Go.bits .xor .u8 x a ∧ Go.bits .xor .u8 x a < 256 ∧ Go.bits .xor .u8 x a ≠ x := by
  obtain ⟨p, rfl⟩ : ∃ p : Nat, x = p := ⟨x.toNat, by omega⟩
  obtain ⟨q, rfl⟩ : ∃ q : Nat, a = q := ⟨a.toNat, by omega⟩
  rw [xor_u8 p q (by omega) (by omega)]
  have h1 := Nat.xor_lt_two_pow (n := 8) (x := p) (y := q) (by omega) (by omega)
  refine ⟨by omega, by omega, fun e => hne ?_⟩
  have e' : p ^^^ q = p := by omega
  have h2 := congrArg (p ^^^ ·) e'
  simp only [← Nat.xor_assoc, Nat.xor_self, Nat.zero_xor] at h2
  omega
/-- What is told of a log with one byte another one. -/
theorem readL_flip (m : List S24) (hm : mayAll m) (q : Nat) (hq : q < m.length) (r : Nat) (hr : 4 + r < (recOf m[q].f0 m[q].f1).length) (y : Int) (hy : 0 ≤ y ∧ y < 256)
    (hne : y ≠ rd (logOf m) ((((logOf (m.take q)).length + 4 + r : Nat)) : Int)) :
    readL ((logOf m).set ((logOf (m.take q)).length + 4 + r) y) = (m.take q, (logOf (m.take q)).length, 300) := by
  have hd : m = m.take q ++ m[q] :: m.drop (q + 1) := by rw [← List.drop_eq_getElem_cons hq, List.take_append_drop]
  have hlog : logOf m = logOf (m.take q) ++ (recOf m[q].f0 m[q].f1 ++ logOf (m.drop (q + 1))) := by
    conv => lhs; rw [hd]
    rw [logOf_append, logOf_cons]
  have hs : (logOf m).set ((logOf (m.take q)).length + 4 + r) y = logOf (m.take q) ++ ((recOf m[q].f0 m[q].f1).set (4 + r) y ++ logOf (m.drop (q + 1))) := by
    rw [hlog, List.set_append, if_neg (by omega), show (logOf (m.take q)).length + 4 + r - (logOf (m.take q)).length = 4 + r by omega, List.set_append, if_pos hr]
  have hrd : rd (logOf m) ((((logOf (m.take q)).length + 4 + r : Nat)) : Int) = (recOf m[q].f0 m[q].f1)[4 + r] := by
    have hlt : (logOf (m.take q)).length + 4 + r < (logOf m).length := by rw [hlog, List.length_append, List.length_append]; omega
    have h1 : rd (logOf m) ((((logOf (m.take q)).length + 4 + r : Nat)) : Int) = (logOf m)[(logOf (m.take q)).length + 4 + r] := rd_get _ _ hlt
    rw [h1]
    simp only [hlog]
    rw [List.getElem_append_right (by omega), List.getElem_append_left (by omega)]
    congr 1
    omega
  rw [hrd] at hne
  have hbad := entryOf_flip m[q].f0 m[q].f1 (logOf (m.drop (q + 1))) (hm _ (List.getElem_mem hq)) r hr y hy hne
  have hne0 : (recOf m[q].f0 m[q].f1).set (4 + r) y ++ logOf (m.drop (q + 1)) ≠ [] := by
    intro e
    have := congrArg List.length e
    rw [List.length_append, List.length_set, List.length_nil] at this
    omega
  rw [hs, readL_log _ _ (mayAll_takes hm q), readL_bad hne0 hbad]
  simp
theorem flipped_pure (l0 : List S24) (b0 b1 a2 : Int) (h0 : 0 ≤ b0 ∧ b0 < 65536) (h1 : 0 ≤ b1 ∧ b1 < 65536) (h2 : 0 ≤ a2 ∧ a2 < 256) : ∃ k, zigguratlaw30_StoreFlipped.f k l0 [b0, b1] a2 = some true := by
  obtain ⟨K, hK⟩ : ∃ K : Nat, K = 100 := ⟨_, rfl⟩
  have hh : zigguratlaw30_head.f K = some true := by rw [hK]; exact head_true 98
  obtain ⟨m, hm1, hm, hm3, hm4⟩ := made_is l0 12 (by omega) K (by omega)
  have hlen := short_len m hm3
  have hb := logOf_bytes m hm
  refine ⟨K, ?_⟩
  unfold zigguratlaw30_StoreFlipped.f
  rw [hh, Option.bind_some, show (12 : Int) = ((12 : Nat) : Int) from rfl, hm1, Option.bind_some]
  by_cases hz : (m.length : Int) = 0
  · rw [if_pos hz]
  rw [if_neg hz]
  by_cases ha : a2 = 0
  · rw [if_pos ha]
  rw [if_neg ha]
  have hl2 : (([b0, b1] : List Int).length : Int) = 2 := rfl
  have hr0 : rd [b0, b1] 0 = b0 := rfl
  have hr1 : rd [b0, b1] 1 = b1 := rfl
  have hw0 : wrap64 b0 = b0 := by unfold wrap64; omega
  have hw1 : wrap64 b1 = b1 := by unfold wrap64; omega
  rw [hl2, hr0, hr1, hw0, hw1, if_pos (by decide)]
  clear hw0 hw1
  obtain ⟨q, hq⟩ : ∃ q : Nat, (q : Int) = Int.tmod b0 (m.length : Int) := by
    refine ⟨(Int.tmod b0 (m.length : Int)).toNat, ?_⟩
    rw [Int.tmod_eq_emod_of_nonneg h0.1]
    have := Int.emod_nonneg b0 hz
    omega
  have hql : q < m.length := by
    rw [Int.tmod_eq_emod_of_nonneg h0.1] at hq
    have := Int.emod_lt_of_pos b0 (show (0 : Int) < (m.length : Int) by omega)
    omega
  have hle := logOf_take_le m q
  have hsu := congrArg List.length (logOf_take_succ m q hql)
  rw [List.length_append] at hsu
  have hle1 := logOf_take_le m (q + 1)
  have hrl := recOf_length m[q].f0 m[q].f1
  have hmb := mayB_iff.1 (hm _ (List.getElem_mem hql))
  rw [← hq, if_pos (by omega), if_pos (by omega), Int.toNat_natCast, written_takes m hm (by omega) (by omega) q K (by omega), Option.bind_some,
    show ((logOf (m.take q), true) : List Int × Bool).1 = logOf (m.take q) from rfl, show ((logOf (m.take q), true) : List Int × Bool).2 = true from rfl]
  rw [show wrap64 ((q : Int) + 1) = ((q + 1 : Nat) : Int) by unfold wrap64; omega, if_pos (by omega), if_pos (by omega), Int.toNat_natCast, written_takes m hm (by omega) (by omega) (q + 1) K (by omega), Option.bind_some,
    show ((logOf (m.take (q + 1)), true) : List Int × Bool).1 = logOf (m.take (q + 1)) from rfl, show ((logOf (m.take (q + 1)), true) : List Int × Bool).2 = true from rfl]
  rw [written_is m hm (by omega) (by omega) K (by omega), Option.bind_some,
    show ((logOf m, true) : List Int × Bool).1 = logOf m from rfl, show ((logOf m, true) : List Int × Bool).2 = true from rfl]
  rw [if_pos rfl, if_pos rfl, if_pos rfl]
  obtain ⟨A, hA⟩ : ∃ A, A = (logOf (m.take q)).length := ⟨_, rfl⟩
  obtain ⟨U, hU⟩ : ∃ U, U = (logOf (m.take (q + 1))).length := ⟨_, rfl⟩
  obtain ⟨R, hR⟩ : ∃ R, R = (recOf m[q].f0 m[q].f1).length := ⟨_, rfl⟩
  rw [← hA, ← hU, ← hR] at hsu
  rw [← hA] at hle
  rw [← hU] at hle1
  rw [← hR] at hrl
  obtain ⟨r, hr⟩ : ∃ r : Nat, (r : Int) = Int.tmod b1 ((R - 4 : Nat) : Int) := by
    refine ⟨(Int.tmod b1 ((R - 4 : Nat) : Int)).toNat, ?_⟩
    rw [Int.tmod_eq_emod_of_nonneg h1.1]
    have := Int.emod_nonneg b1 (show (((R - 4 : Nat)) : Int) ≠ 0 by omega)
    omega
  have hrR : 4 + r < R := by
    rw [Int.tmod_eq_emod_of_nonneg h1.1] at hr
    have := Int.emod_lt_of_pos b1 (show (0 : Int) < ((R - 4 : Nat) : Int) by omega)
    omega
  rw [← hA, ← hU, show wrap64 ((A : Int) + 9) = (A : Int) + 9 by unfold wrap64; omega, show wrap64 (wrap64 ((U : Int) - (A : Int)) - 4) = ((R - 4 : Nat) : Int) by unfold wrap64; omega, show wrap64 ((A : Int) + 4) = (A : Int) + 4 by unfold wrap64; omega, ← hr, show wrap64 ((A : Int) + 4 + (r : Int)) = ((A + 4 + r : Nat) : Int) by unfold wrap64; omega]
  rw [if_neg (by omega), if_neg (by omega), if_pos (by omega), if_neg (by omega), Option.bind_some, List.length_nil, if_pos (by omega), Option.bind_some, List.nil_append, if_pos (by omega), if_pos (by omega), Int.toNat_natCast]
  have hpl : A + 4 + r < (logOf m).length := by omega
  have hx := (bytesB_iff.1 hb) (logOf m)[A + 4 + r] (List.getElem_mem hpl)
  have hrd : rd (logOf m) ((A + 4 + r : Nat) : Int) = (logOf m)[A + 4 + r] := rd_get _ _ hpl
  obtain ⟨y1, y2, y3⟩ := xor_ne (logOf m)[A + 4 + r] a2 hx h2 ha
  rw [← hrd] at y1 y2 y3
  obtain ⟨y, hy⟩ : ∃ y, y = Go.bits .xor .u8 (rd (logOf m) ((A + 4 + r : Nat) : Int)) a2 := ⟨_, rfl⟩
  rw [← hy] at y1 y2 y3
  rw [← hy]
  have hbs : bytesB ((logOf m).set (A + 4 + r) y) = true := by
    rw [bytesB_iff]
    intro z hz'
    rcases List.mem_or_eq_of_mem_set hz' with h | h
    · exact (bytesB_iff.1 hb) z h
    · omega
  have hfl := readL_flip m hm q hql r (by rw [← hR]; exact hrR) y ⟨y1, y2⟩ (by rw [← hA]; exact y3)
  rw [← hA] at hfl
  rw [read_is hbs (by rw [List.length_set]; omega), hfl, Option.bind_some]
  show (if true = true then (if (300 : Int) = 300 then (if ((A : Nat) : Int) = (A : Int) then ((zigguratref30_Same.f K (m.take q) (m.take q)).bind fun t216 => (some t216)) else none) else none) else none) = some true
  rw [if_pos rfl, if_pos rfl, if_pos rfl, same_self _ K (by rw [List.length_take]; omega) (by rw [List.length_take]; omega)]
  rfl
end Go.Proofs.YtkeegknadegaaaaDoor.Q
/-
  StoreFlipped: the row, of the function itself.
-/
namespace Go.Proofs.YtkeegknadegaaaaDoor.storeFlipped
open Go.ChangeShapes Go.WideShapes Go.ChangeAt Go.RowKit Go.Proofs.YtkeegknadegaaaaDoor.Q
open Go.ChangeMaps (open_string shut_string)
open Go.WideMaps (ArrKey open_pair shut_pair)
set_option linter.unusedVariables false
theorem own : ownKnob Tryd.prog.godebug = none := by kernel_rfl
theorem laidOut : laidOutB Tryd.prog = true := by kernel_rfl
theorem arrA : ArrKey Tryd.prog 43 41 2 := ⟨Tryd.underlying43, by kernel_rfl, by kernel_rfl, by kernel_rfl⟩
set_option maxRecDepth 100000 in
theorem lifted (os : Os) (started : os.Started) (H : Type) (enc : TypeId × Value → H) :
    ReturnsInHanded {} Tryd.checked os 6 .any (fun w args => (Rows.storeFlippedSpec.pre enc Tryd.prog Tryd.f6 [] false w args ∧ laidMetH Tryd.prog Rows.storeFlippedRow.laid w) ∧ sizedMet enc Tryd.prog Tryd.f6 (OpenSpec.ofChange Rows.storeFlippedSpec) false w args)
      (Rows.storeFlippedSpec.post enc Tryd.prog Tryd.f6 false true false false) := by
  refine returnsInHanded_of_change_and (C := Tryd.checked) (X := fun w _ => laidMetH Tryd.prog Rows.storeFlippedRow.laid w) (fun _ _ _ hh h => h.of_heap hh) own started (by kernel_rfl) Tryd.func6
    (ChangeSpec.witness_at (enc := enc) (C := Tryd.checked) (os := os) (X := fun w _ => laidMetH Tryd.prog Rows.storeFlippedRow.laid w) false (laidWorld os) #[.slice none 0 0, .agg #[.int .u16 0, .int .u16 0], .int .u8 0] 8 rfl (by kernel_rfl) (by kernel_rfl) (by kernel_rfl) (by kernel_rfl) (by kernel_rfl) (laidWorld_met os _)) ?_
  intro W base args ds gs before hval0 hW hcnd hsz0 hL _
  have hg := gok_of_laid hL
  have hsz : (DataW.weightsEach Tryd.prog (Tryd.f6.params.toList ++ Rows.storeFlippedSpec.plain.varTypes Tryd.prog) (ds ++ gs)).all (· ≤ reachBytes) = true := hsz0
  have hval : ∀ (j : Nat) t v, Tryd.f6.params[j]? = some t → args[j]? = some v → Value.okWide Tryd.prog W .any base t v := hval0
  have hW' := hW
  obtain ⟨p, q, hA0, hV, rfl, hfz, hnd⟩ := hW
  have hA : DataW.TrodAll enc Tryd.prog W 0 (fun _ => true) true Tryd.f6.params.toList args.toList ds p := hA0
  rw [Tryd.params6] at hA hval hsz
  obtain ⟨v0, vs0, d0, ds0, p0, q0, hargs, rfl, rfl, h0, r0⟩ := trodAll_cons hA
  obtain ⟨v1, vs1, d1, ds1, p1, q1, rfl, rfl, rfl, h1, r1⟩ := trodAll_cons r0
  obtain ⟨v2, vs2, d2, ds2, p2, q2, rfl, rfl, rfl, h2, r2⟩ := trodAll_cons r1
  obtain ⟨rfl, rfl, rfl⟩ := trodAll_nil r2
  obtain rfl : args = #[v0, v1, v2] := by cases args; simp_all
  obtain ⟨rfl, rfl⟩ := trodVars_none hV
  obtain ⟨a0, len0, cap0, rfl⟩ := okWide_slice Tryd.underlying29 (hval 0 29 v0 rfl rfl)
  have k0 := h0
  have lt0 : ∀ x ∈ p0, x.block < W.heap.size := by obtain ⟨m, hm⟩ := k0; exact DataW.trod_lt m _ _ _ hm
  obtain ⟨l0, hr0, rfl, hc0⟩ : ∃ l0 : List S24, Go.Proofs.YtkeegknadegaaaaDoorW.PrintWords.Kd.C k24 W a0 len0 l0 ∧ l0.length = len0 ∧ len0 ≤ cap0 := by
    obtain ⟨fuel, hf⟩ := h0
    exact open_entries (by simpa [Value.cells] using hf)
  obtain ⟨b1_0, b1_1, rfl, rfl, rfl, wb1_0, wb1_1⟩ := open_pair arrA Tryd.underlying41 (hval 1 43 v1 rfl rfl) h1
  obtain ⟨a2, rfl, rfl, rfl, w2⟩ := open_int Tryd.underlying5 (hval 2 5 v2 rfl rfl) h2
  clear hA0 hval0 hsz0 hsz
  obtain ⟨k, h⟩ := (Q.flipped_pure l0 b1_0 b1_1 a2 (by have e0 : IntKind.u16.min = 0 := rfl; have e1 : IntKind.u16.max = 65535 := rfl; simp [Lit.wf, e0, e1] at wb1_0; omega) (by have e0 : IntKind.u16.min = 0 := rfl; have e1 : IntKind.u16.max = 65535 := rfl; simp [Lit.wf, e0, e1] at wb1_1; omega) (by have e0 : IntKind.u8.min = 0 := rfl; have e1 : IntKind.u8.max = 255 := rfl; simp [Lit.wf, e0, e1] at w2; omega))
  refine (Q.zigguratlaw30_StoreFlipped.calls k _ _ l0 b1_0 b1_1 a2 true W hr0 hc0 hg h).mono fun e W' ⟨he, bel⟩ => ?_
  subst he
  exact ⟨_, rfl, _, _, _, [], _, [], hW', trodAll_mk1 (shut_bool Tryd.underlying4 _), (trodAll_cons_mk (Below.trod laidOut (by kernel_rfl) (of_decide_eq_true (by kernel_rfl)) k0 bel lt0) (trodAll_cons_mk (shut_pair arrA Tryd.underlying41 wb1_0 wb1_1) (trodAll_cons_mk (shut_int Tryd.underlying5 w2) trodAll_mk0))), rfl, bel.frame _, fun h => by cases h⟩
theorem over : Rows.storeFlippedRow.holds Tryd.pinned (OpenSpec.ofChange Rows.storeFlippedSpec) :=
  OpenClaim.holds_of_wide 6 Tryd.f6 rfl rfl rfl rfl rfl rfl rfl ⟨rfl, rfl, rfl, rfl, rfl⟩ rfl rfl rfl rfl rfl (by kernel_rfl) Tryd.func6 (by kernel_rfl)
    (of_decide_eq_true (by kernel_rfl)) (by unfold Func.isWrapper; first | (rw [if_pos (by decide +kernel)]; kernel_rfl) | (rw [if_neg (by decide +kernel)]; exact ⟨rfl, rfl⟩))
    (fun os started H enc _ => lifted os started H enc)
end Go.Proofs.YtkeegknadegaaaaDoor.storeFlipped
namespace Go.Proofs.YtkeegknadegaaaaDoor
open Go
/-- The row, under a short name. -/
theorem storeFlipped_holds : Rows.StoreFlippedSaid := storeFlipped.over
end Go.Proofs.YtkeegknadegaaaaDoor
/-
  StoreFlipped: the tied card.
-/
namespace Go.Proofs.YtkeegknadegaaaaDoor
open Go
theorem storeFlipped_plainParams : ∀ t ∈ Tryd.f6.params.toList, Tryd.prog.wantsStandIn t = false := by
  rw [Tryd.params6]
  intro t ht
  simp only [List.mem_cons, List.not_mem_nil, or_false] at ht
  first
    | (rcases ht with rfl | rfl | rfl <;> kernel_rfl)
    | (rcases ht with rfl | rfl <;> kernel_rfl)
    | (subst ht; kernel_rfl)
theorem storeFlipped_card : Rows.StoreFlippedCardSaid :=
  Claim7.holds_tied_plain_at .later [] [.handle] true (true, "34bdef4e9bffb480d87468241b17d7559861034fec9fdb17c8b41cbaa0e36c65") true
    storeFlipped_holds (fun _ h => by cases h) (by kernel_rfl) (fun _ h => by cases h) storeFlipped_row_tie rfl ⟨rfl, rfl⟩ (by kernel_rfl) rfl
    (fun f fn hf hfn => by
      obtain rfl : f = 6 := Option.some.inj ((show Tryd.prog.funcNamed "ziggurat/zigguratlaw30.StoreFlipped" = some 6 by kernel_rfl).symm.trans hf) |>.symm
      obtain rfl : fn = Tryd.f6 := (Option.some.inj (Tryd.func6.symm.trans hfn)).symm
      exact ⟨by kernel_rfl, fun j t ht => storeFlipped_plainParams t (List.mem_of_getElem? (l := Tryd.f6.params.toList) (i := j) (by simpa using ht))⟩)
    (by kernel_rfl)
#print axioms storeFlipped_card
end Go.Proofs.YtkeegknadegaaaaDoor
