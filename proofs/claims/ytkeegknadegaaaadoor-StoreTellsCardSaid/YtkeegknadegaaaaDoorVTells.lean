/-
  StoreTells in plain words: what is appended to any log, and what any bytes tell, and their sum, are the document's.
-/
import Derived.Test.YtkeegknadegaaaaDoorQ30
import Derived.Test.YtkeegknadegaaaaDoorLHead
import Derived.Test.YtkeegknadegaaaaDoorPLog
import Derived.Test.YtkeegknadegaaaaDoorRows
import Derived.Test.YtkeegknadegaaaaDoorHLaid
import Derived.Test.YtkeegknadegaaaaDoorHRow24
import Derived.WalkKit
import Derived.ProofKit
import Derived.OpenShut
import Derived.ShutString
import Derived.ChangeOld
import Derived.Below
import Derived.SizedLaws
import Derived.WideKeyPair
import Derived.Test.YtkeegknadegaaaaDoorWSized
import Derived.Test.YtkeegknadegaaaaDoorTie
import Derived.Test.YtkeegknadegaaaaDoorCards
import Derived.SevenTiedAt
namespace Go.Proofs.YtkeegknadegaaaaDoor.Q
open Go.RowKit Go.Proofs.YtkeegknadegaaaaDoor.S Go.Proofs.YtkeegknadegaaaaDoorW.PrintWords Go.Proofs.YtkeegknadegaaaaDoorW.PrintLast Go.Proofs.YtkeegknadegaaaaDoorW.PrintMore
set_option linter.unusedVariables false

theorem step_ref (c : BitVec 32) : (if Go.bits .and .u32 (c.toNat : Int) 1 = 1 then Go.bits .xor .u32 ((c.toNat : Int) / 2) 3988292384 else (c.toNat : Int) / 2) = ((stepB c).toNat : Int) := by
  rw [and1_u32, ← shr1]
  unfold stepB
  rcases Nat.mod_two_eq_zero_or_one c.toNat with h | h
  · rw [h, if_neg (by decide), if_neg (by decide), BitVec.xor_zero]
  · rw [h, if_pos (by decide), if_pos rfl]
    exact xor_u32 (c >>> 1) poly
theorem sum_l1 (x0 : List Int) (i : Int) : ∀ (n j : Nat), 8 - j = n → j ≤ 8 → ∀ (k : Nat) (c : BitVec 32),
    zigguratref30_Sum.l1 (k + n + 1) x0 (c.toNat : Int) i (j : Int) = zigguratref30_Sum.l0 k x0 ((stepN n c).toNat : Int) (wrap64 (i + 1)) := by
  intro n
  induction n with
  | zero =>
    intro j hn hj k c
    rw [zigguratref30_Sum.l1, if_neg (by omega)]
    rfl
  | succ n ih =>
    intro j hn hj k c
    rw [zigguratref30_Sum.l1, if_pos (by omega), show wrap64 ((j : Int) + 1) = ((j + 1 : Nat) : Int) by unfold wrap64; omega]
    have h1 := ih (j + 1) (by omega) (by omega) k (stepB c)
    rw [stepN_succ', ← h1, ← step_ref c, show k + (n + 1) = k + n + 1 by omega]
    split <;> rfl
theorem sum_l0 (l : List Int) (hb : bytesB l = true) (hl : l.length ≤ 1000000000) : ∀ (n i : Nat), l.length - i = n → i ≤ l.length → ∀ (k : Nat),
    zigguratref30_Sum.l0 (k + 10 * n + 1) l ((runB (l.take i) 4294967295#32).toNat : Int) (i : Int) = some (crc l) := by
  intro n
  induction n with
  | zero =>
    intro i hn hi k
    rw [zigguratref30_Sum.l0, if_neg (by omega), List.take_of_length_le (by omega)]
    have := xor_u32 (runB l 4294967295#32) 4294967295#32
    rw [show (((4294967295#32 : BitVec 32).toNat : Nat) : Int) = 4294967295 from rfl] at this
    rw [this]
    rfl
  | succ n ih =>
    intro i hn hi k
    have hlt : i < l.length := by omega
    have hx := (bytesB_iff.1 hb) l[i] (List.getElem_mem hlt)
    have er : rd l (i : Int) = l[i] := by simp [rd, List.getD, hlt]
    rw [show k + 10 * (n + 1) + 1 = (k + 10 * n + 1 + 8 + 1) + 1 by omega, zigguratref30_Sum.l0, if_pos (by omega), if_pos (by omega), er]
    obtain ⟨x, hxn⟩ : ∃ x : Nat, (x : Int) = l[i] := ⟨l[i].toNat, by omega⟩
    have e1 : l[i] % 4294967296 = ((BitVec.ofNat 32 x).toNat : Int) := by rw [BitVec.toNat_ofNat]; omega
    rw [e1, xor_u32, show (0 : Int) = ((0 : Nat) : Int) from rfl, sum_l1 l (i : Int) 8 0 (by omega) (by omega) (k + 10 * n + 1), show wrap64 ((i : Int) + 1) = ((i + 1 : Nat) : Int) by unfold wrap64; omega, ← byteB_steps]
    have e2 : byteB (runB (l.take i) 4294967295#32) x = runB (l.take (i + 1)) 4294967295#32 := by
      rw [List.take_succ_eq_append_getElem hlt, runB_snoc, ← hxn, Int.toNat_natCast]
    rw [e2]
    exact ih (i + 1) (by omega) (by omega) k
theorem refsum_is {l : List Int} (hb : bytesB l = true) (hl : l.length ≤ 1000000000) {K : Nat} (hK : 10 * l.length + 1 ≤ K) : zigguratref30_Sum.f K l = some (crc l) := by
  unfold zigguratref30_Sum.f
  have := sum_l0 l hb hl l.length 0 (by omega) (by omega) (K - 10 * l.length - 1)
  rw [show K - 10 * l.length - 1 + 10 * l.length + 1 = K by omega] at this
  exact this
theorem or_u32 (a b : Nat) (ha : a < 4294967296) (hb : b < 4294967296) : Go.bits .or .u32 (a : Int) (b : Int) = ((a ||| b : Nat) : Int) :=
  (bits_nat .u32 32 (Nat.le_refl _) (fun n h0 h1 => by rw [IntKind.wrap_u32]; omega) a b ha hb).2
theorem num_or (a b c d : Nat) (ha : a < 256) (hb : b < 256) (hc : c < 256) (hd : d < 256) :
    Go.bits .or .u32 (Go.bits .or .u32 (Go.bits .or .u32 ((a : Int) % 4294967296) ((((b : Int) % 4294967296) * 256) % 4294967296)) ((((c : Int) % 4294967296) * 65536) % 4294967296)) ((((d : Int) % 4294967296) * 16777216) % 4294967296) = ((a + 256 * b + 65536 * c + 16777216 * d : Nat) : Int) := by
  have o1 : a ||| 256 * b = a + 256 * b := by
    have := Nat.two_pow_add_eq_or_of_lt (i := 8) (b := a) (by omega) b
    rw [show (2 : Nat) ^ 8 = 256 from rfl] at this
    rw [Nat.or_comm]; omega
  have o2 : (a + 256 * b) ||| 65536 * c = a + 256 * b + 65536 * c := by
    have := Nat.two_pow_add_eq_or_of_lt (i := 16) (b := a + 256 * b) (by omega) c
    rw [show (2 : Nat) ^ 16 = 65536 from rfl] at this
    rw [Nat.or_comm]; omega
  have o3 : (a + 256 * b + 65536 * c) ||| 16777216 * d = a + 256 * b + 65536 * c + 16777216 * d := by
    have := Nat.two_pow_add_eq_or_of_lt (i := 24) (b := a + 256 * b + 65536 * c) (by omega) d
    rw [show (2 : Nat) ^ 24 = 16777216 from rfl] at this
    rw [Nat.or_comm]; omega
  rw [show (a : Int) % 4294967296 = ((a : Nat) : Int) by omega, show (((b : Int) % 4294967296) * 256) % 4294967296 = ((256 * b : Nat) : Int) by omega, show (((c : Int) % 4294967296) * 65536) % 4294967296 = ((65536 * c : Nat) : Int) by omega, show (((d : Int) % 4294967296) * 16777216) % 4294967296 = ((16777216 * d : Nat) : Int) by omega]
  rw [or_u32 _ _ (by omega) (by omega), o1, or_u32 _ _ (by omega) (by omega), o2, or_u32 _ _ (by omega) (by omega), o3]
theorem refnum_is {l : List Int} (hb : bytesB l = true) (hl : 4 ≤ l.length) : zigguratref30_number.f l = some (num4 l) := by
  unfold zigguratref30_number.f
  rw [if_pos (by omega), if_pos (by omega), if_pos (by omega), if_pos (by omega), num4_eq]
  match l, hl with
  | a :: b :: c :: d :: r, _ =>
    have ha := (bytesB_iff.1 hb) a (by simp)
    have hb2 := (bytesB_iff.1 hb) b (by simp)
    have hc := (bytesB_iff.1 hb) c (by simp)
    have hd := (bytesB_iff.1 hb) d (by simp)
    obtain ⟨a', rfl⟩ : ∃ x : Nat, a = x := ⟨a.toNat, by omega⟩
    obtain ⟨b', rfl⟩ : ∃ x : Nat, b = x := ⟨b.toNat, by omega⟩
    obtain ⟨c', rfl⟩ : ∃ x : Nat, c = x := ⟨c.toNat, by omega⟩
    obtain ⟨d', rfl⟩ : ∃ x : Nat, d = x := ⟨d.toNat, by omega⟩
    have := num_or a' b' c' d' (by omega) (by omega) (by omega) (by omega)
    show some (Go.bits .or .u32 (Go.bits .or .u32 (Go.bits .or .u32 ((a' : Int) % 4294967296) ((((b' : Int) % 4294967296) * 256) % 4294967296)) ((((c' : Int) % 4294967296) * 65536) % 4294967296)) ((((d' : Int) % 4294967296) * 16777216) % 4294967296)) = some ((a' : Int) + 256 * (b' : Int) + 65536 * (c' : Int) + 16777216 * (d' : Int))
    rw [this]
    congr 1
theorem refmay_is (n t : ByteArray) : zigguratref30_May.f n t = some (mayB n t) := by
  unfold zigguratref30_May.f mayB
  by_cases h1 : 1 ≤ n.size
  · rw [if_pos (by omega)]
    by_cases h2 : n.size ≤ 20
    · rw [if_pos (by omega)]; simp [h1, h2]; omega
    · rw [if_neg (by omega)]; simp [h2]
  · rw [if_neg (by omega)]; simp [h1]
theorem reffour_is (x : Int) : zigguratref30_four.f x = some (fourL x) := rfl
theorem refapp_is (l0 : List Int) (n t : ByteArray) (hl : l0.length ≤ 3000) {K : Nat} (hK : 300000 ≤ K) : zigguratref30_Append.f K l0 n t = store_Append.f l0 n t := by
  unfold zigguratref30_Append.f store_Append.f
  rw [refmay_is, Option.bind_some]
  by_cases hm : mayB n t = true
  · obtain ⟨h1, h2, h3⟩ := mayB_iff.1 hm
    have hbl := bodyOf_length n t
    have hbb := bodyOf_range n t (by omega)
    rw [if_pos hm, if_pos hm, if_pos (by omega), reffour_is, Option.bind_some]
    have e0 : (wrap64 ((wrap64 (1 + (n.size : Int))) + (t.size : Int))) % 4294967296 = ((1 + n.size + t.size : Nat) : Int) := by unfold wrap64; omega
    have e1 : ((n.size : Int)) % 256 = (n.size : Int) := by omega
    rw [e0, e1, fourL_length, if_pos (by omega), Option.bind_some]
    rw [List.length_append, fourL_length, List.length_singleton, if_pos (by omega), Option.bind_some]
    rw [List.length_append, List.length_append, fourL_length, List.length_singleton, bytesOf_length, if_pos (by omega), Option.bind_some]
    rw [show fourL ((1 + n.size + t.size : Nat) : Int) ++ [(n.size : Int)] ++ bytesOf n ++ bytesOf t = bodyOf n t from rfl]
    rw [refsum_is hbb (by omega) (by omega), Option.bind_some, reffour_is, Option.bind_some, hbl, fourL_length, if_pos (by omega), Option.bind_some, Option.bind_some]
    rw [List.nil_append, List.length_nil, if_pos (by omega), Option.bind_some]
    rw [show bodyOf n t ++ fourL (crc (bodyOf n t)) = recOf n t from rfl, recOf_length, if_pos (by omega)]
  · rw [if_neg hm, if_neg hm]
def entOut : Ent → ByteArray × ByteArray × Int × Int
  | .bad c => (⟨#[]⟩, ⟨#[]⟩, 0, c)
  | .good n t k => (n, t, (k : Int), 0)
theorem rd_pay {l : List Int} {m : Nat} (hm : 1 ≤ m) (hl : 4 + m ≤ l.length) : rd (payOf l m) 0 = rd l 4 := by
  have h1 : 4 < (l.take (4 + m)).length := by rw [List.length_take]; omega
  have h2 : 4 < l.length := by omega
  unfold payOf rd
  simp only [List.getD_eq_getElem?_getD, List.getElem?_drop, List.getElem?_take]
  rw [show (0 : Int).toNat = 0 from rfl, show (4 : Int).toNat = 4 from rfl, if_pos (by omega)]
theorem nam_is {l : List Int} {m q : Nat} (hq : rd l 4 = (q : Int)) (hm : 1 + q ≤ m) (hl : 4 + m ≤ l.length) : namOf (payOf l m) = (l.take (5 + q)).drop 5 := by
  unfold namOf
  rw [rd_pay (by omega) hl, hq, Int.toNat_natCast]
  unfold payOf
  rw [List.take_drop, List.take_take, List.drop_drop, show min (4 + (1 + q)) (4 + m) = 5 + q by omega]
theorem txt_is {l : List Int} {m q : Nat} (hq : rd l 4 = (q : Int)) (hm : 1 + q ≤ m) (hl : 4 + m ≤ l.length) : txtOf (payOf l m) = (l.take (4 + m)).drop (5 + q) := by
  unfold txtOf
  rw [rd_pay (by omega) hl, hq, Int.toNat_natCast]
  unfold payOf
  rw [List.drop_drop, show 4 + (1 + q) = 5 + q by omega]
theorem refone_is {l : List Int} (hb : bytesB l = true) (hl : l.length ≤ 3000) {K : Nat} (hK : 40000 ≤ K) : zigguratref30_one.f K l = some (entOut (entryOf l)) := by
  unfold zigguratref30_one.f entryOf
  by_cases h4 : l.length < 4
  · rw [if_pos (by omega), if_pos h4]
    rfl
  rw [if_neg (by omega), if_neg h4, refnum_is hb (by omega), Option.bind_some]
  have hnr := numTop_range hb (by omega) 4 (by omega)
  have hnr' : 0 ≤ num4 l ∧ num4 l < 4294967296 := by simpa [num4] using hnr
  obtain ⟨m, hm⟩ : ∃ m : Nat, (m : Int) = num4 l := ⟨(num4 l).toNat, by omega⟩
  rw [← hm, Int.toNat_natCast, show wrap64 ((m : Nat) : Int) = (m : Int) by unfold wrap64; omega, show wrap64 ((l.length : Int) - 8) = (l.length : Int) - 8 by unfold wrap64; omega]
  by_cases h8 : l.length < 8 + m
  · rw [if_pos (by omega), if_pos h8]
    rfl
  rw [if_neg (by omega), if_neg h8, show wrap64 (4 + (m : Int)) = ((4 + m : Nat) : Int) by unfold wrap64; omega, if_pos (by omega), if_pos (by omega), Int.toNat_natCast]
  rw [refsum_is (bytesB_take hb _) (by rw [List.length_take]; omega) (by rw [List.length_take]; omega), Option.bind_some, refnum_is (bytesB_drop hb _) (by rw [List.length_drop]; omega), Option.bind_some]
  obtain ⟨K, rfl⟩ : ∃ K', K = K' + 1 := ⟨K - 1, by omega⟩
  by_cases hc : crc (l.take (4 + m)) = num4 (l.drop (4 + m))
  · rw [if_pos hc, if_neg (show ¬ (crc (l.take (4 + m)) ≠ num4 (l.drop (4 + m))) from fun h => h hc)]
    by_cases hm0 : m = 0
    · rw [if_pos (by omega), if_pos hm0, zigguratref30_one.j0, if_pos rfl]
      rfl
    rw [if_neg (by omega), if_neg hm0, if_pos (by omega)]
    have h4l : 4 < l.length := by omega
    have hx := (bytesB_iff.1 hb) l[4] (List.getElem_mem h4l)
    have hr4 : rd l 4 = l[4] := by
      rw [show (4 : Int) = ((4 : Nat) : Int) from rfl]
      simp [rd, List.getD, h4l]
    obtain ⟨q, hq⟩ : ∃ q : Nat, (q : Int) = rd l 4 := ⟨(rd l 4).toNat, by omega⟩
    have hq256 : q < 256 := by omega
    rw [rd_pay (by omega) (by omega), ← hq, Int.toNat_natCast, show wrap64 ((q : Nat) : Int) = (q : Int) by unfold wrap64; omega, show wrap64 (1 + (q : Int)) = 1 + (q : Int) by unfold wrap64; omega]
    by_cases hmq : m < 1 + q
    · rw [if_pos hmq, show decide ((m : Int) < 1 + (q : Int)) = true by simp; omega, zigguratref30_one.j0, if_pos rfl]
      rfl
    · rw [if_neg hmq, show decide ((m : Int) < 1 + (q : Int)) = false by simp; omega, zigguratref30_one.j0, if_neg (by decide), if_pos (by omega), ← hq]
      rw [show wrap64 ((q : Nat) : Int) = (q : Int) by unfold wrap64; omega, show wrap64 (5 + (q : Int)) = ((5 + q : Nat) : Int) by unfold wrap64; omega, show wrap64 (4 + (m : Int)) = ((4 + m : Nat) : Int) by unfold wrap64; omega]
      rw [if_pos (by omega), if_pos (by omega), if_pos (by omega), if_pos (by omega), if_pos (by omega), Int.toNat_natCast, Int.toNat_natCast, refmay_is, Option.bind_some]
      rw [nam_is hq.symm (by omega) (by omega), txt_is hq.symm (by omega) (by omega)]
      have hnl : ((l.take (5 + q)).drop 5).length = q := by rw [List.length_drop, List.length_take]; omega
      have htl : ((l.take (4 + m)).drop (5 + q)).length = m - 1 - q := by rw [List.length_drop, List.length_take]; omega
      have hmay : mayB (strOfNums ((l.take (5 + q)).drop 5)) (strOfNums ((l.take (4 + m)).drop (5 + q))) = mayN q (m - 1 - q) := by
        unfold mayB mayN
        rw [strOfNums_size, strOfNums_size, hnl, htl]
      rw [hmay]
      by_cases hn : mayN q (m - 1 - q) = true
      · rw [if_pos hn, if_neg (by rw [hn]; decide), show wrap64 ((m : Int) + 8) = ((8 + m : Nat) : Int) by unfold wrap64; omega]
        rfl
      · rw [if_neg hn, if_pos (by simpa using hn)]
        rfl
  · rw [if_neg hc, if_pos (show crc (l.take (4 + m)) ≠ num4 (l.drop (4 + m)) from hc), zigguratref30_one.j0, if_pos rfl]
    rfl
theorem refread_l {l : List Int} (hb : bytesB l = true) (hl : l.length ≤ 3000) : ∀ (n p K : Nat) (x : List S24), l.length - p = n → p ≤ l.length → x.length ≤ p → 40000 + n < K →
    zigguratref30_Read.l0 K l x (p : Int) = some (x ++ (readL (l.drop p)).1, ((p + (readL (l.drop p)).2.1 : Nat) : Int), (readL (l.drop p)).2.2) := by
  intro n
  induction n using Nat.strongRecOn with
  | _ n ih =>
    intro p K x hn hp hx hK
    obtain ⟨K, rfl⟩ : ∃ K', K = K' + 1 := ⟨K - 1, by omega⟩
    rw [zigguratref30_Read.l0]
    by_cases hlt : p < l.length
    · rw [if_pos (by omega), if_pos (by omega), if_pos (by omega), Int.toNat_natCast, refone_is (bytesB_drop hb p) (by rw [List.length_drop]; omega) (by omega), Option.bind_some]
      have hne : l.drop p ≠ [] := by intro e; have := congrArg List.length e; rw [List.length_drop, List.length_nil] at this; omega
      cases he : entryOf (l.drop p) with
      | bad c =>
        have hc := entryOf_bad he
        rw [readL_bad hne he]
        show (if c = 0 then _ else some (x, (p : Int), c)) = _
        rw [if_neg hc]
        simp
      | good a b k =>
        have hk := entryOf_good he
        rw [List.length_drop] at hk
        rw [readL_good he]
        show (if (0 : Int) = 0 then (if x.length < 4398046511104 then zigguratref30_Read.l0 K l (x ++ [(⟨a, b⟩ : S24)]) (wrap64 ((p : Int) + (k : Int))) else none) else some (x, (p : Int), 0)) = _
        rw [if_pos rfl, if_pos (by omega), show wrap64 ((p : Int) + (k : Int)) = ((p + k : Nat) : Int) by unfold wrap64; omega]
        rw [ih (l.length - (p + k)) (by omega) (p + k) K _ rfl (by omega) (by rw [List.length_append, List.length_singleton]; omega) (by omega), List.drop_drop]
        simp only [List.append_assoc, List.singleton_append, Nat.add_assoc]
    · rw [if_neg (by omega), List.drop_of_length_le (by omega), readL_nil]
      simp
theorem refread_is {l : List Int} (hb : bytesB l = true) (hl : l.length ≤ 3000) {K : Nat} (hK : 50000 ≤ K) : zigguratref30_Read.f K l = some ((readL l).1, ((readL l).2.1 : Int), (readL l).2.2) := by
  unfold zigguratref30_Read.f
  have := refread_l hb hl l.length 0 K [] (by omega) (by omega) (by simp) (by omega)
  rw [List.drop_zero, Nat.zero_add, List.nil_append] at this
  exact this
theorem refrepair_is {l : List Int} (hb : bytesB l = true) (hl : l.length ≤ 3000) {K : Nat} (hK : 50000 ≤ K) : zigguratref30_Repair.f K l = some (l.take (readL l).2.1) := by
  obtain ⟨i1, i2, i3, i4⟩ := readL_inv l.length l (Nat.le_refl _) hb
  unfold zigguratref30_Repair.f
  rw [refread_is hb hl hK, Option.bind_some]
  show (if 0 ≤ ((readL l).2.1 : Int) then (if ((readL l).2.1 : Int) ≤ (l.length : Int) then some (l.take ((readL l).2.1 : Int).toNat) else none) else none) = _
  rw [if_pos (by omega), if_pos (by omega), Int.toNat_natCast]
theorem tells_len (es : List S24) (h : mayAll es) : 10 * es.length ≤ (logOf es).length := by
  induction es with
  | nil => simp [logOf]
  | cons e es ih =>
    have h1 := ih (fun x hx => h x (by simp [hx]))
    have h2 := mayB_iff.1 (h e (by simp))
    rw [logOf_cons, List.length_append, recOf_length, List.length_cons]
    omega
theorem tells_pure (l0 : List Int) (s0 s1 : ByteArray) (hb : bytesB l0 = true) : ∃ k, zigguratlaw30_StoreTells.f k l0 s0 s1 = some true := by
  obtain ⟨K, hK⟩ : ∃ K : Nat, K = 300000 := ⟨_, rfl⟩
  have hh : zigguratlaw30_head.f K = some true := by
    obtain ⟨K', hK'⟩ : ∃ K', K = K' + 2 := ⟨K - 2, by omega⟩
    rw [hK']
    exact head_true K'
  refine ⟨K, ?_⟩
  unfold zigguratlaw30_StoreTells.f
  rw [hh, Option.bind_some]
  by_cases h1 : (l0.length : Int) > 3000
  · rw [if_pos h1]
  rw [if_neg h1]
  by_cases h2 : (s0.size : Int) > 100
  · rw [if_pos h2]
  rw [if_neg h2]
  by_cases h3 : (s1.size : Int) > 20500
  · rw [if_pos h3]
  rw [if_neg h3]
  have hl : l0.length ≤ 3000 := by omega
  obtain ⟨r1, r2, hap⟩ : ∃ r1 r2, store_Append.f l0 s0 s1 = some (r1, r2) := by
    unfold store_Append.f
    by_cases hm : mayB s0 s1 = true
    · rw [if_pos hm, if_pos (by omega)]; exact ⟨_, _, rfl⟩
    · rw [if_neg hm]; exact ⟨_, _, rfl⟩
  obtain ⟨i1, i2, i3, i4⟩ := readL_inv l0.length l0 (Nat.le_refl _) hb
  have hlen := tells_len _ i1
  rw [i2, List.length_take] at hlen
  obtain ⟨x, hx⟩ : ∃ x, x = (readL l0).1 := ⟨_, rfl⟩
  obtain ⟨n, hn⟩ : ∃ n, n = (readL l0).2.1 := ⟨_, rfl⟩
  obtain ⟨c, hc⟩ : ∃ c, c = (readL l0).2.2 := ⟨_, rfl⟩
  have hr := read_is hb (by omega : l0.length ≤ 100000000000)
  have hr' := refread_is hb hl (K := K) (by omega)
  have hp := repair_is hb (by omega : l0.length ≤ 100000000000)
  have hp' := refrepair_is hb hl (K := K) (by omega)
  rw [← hx, ← hn, ← hc] at hr hr'
  rw [← hn] at hp hp' hlen
  rw [← hx] at hlen
  rw [refapp_is l0 s0 s1 hl (by omega), hap, Option.bind_some, Option.bind_some, hr, Option.bind_some, hr', Option.bind_some, if_pos rfl]
  rw [if_pos rfl, if_pos rfl]
  show ((zigguratref30_Same.f K x x).bind fun t207 => (if t207 = true then (if ((n : Nat) : Int) = (n : Int) then (if c = c then ((store_Sum.f l0).bind fun t208 => ((zigguratref30_Sum.f K l0).bind fun t209 => (if t208 = t209 then ((store_Repair.f l0).bind fun t210 => ((zigguratref30_Repair.f K l0).bind fun t213 => (some ((strOfNums t210).toList == (strOfNums t213).toList)))) else (none)))) else (none)) else (none)) else (none))) = some true
  rw [same_self x K (by omega) (by omega), Option.bind_some, if_pos rfl, if_pos rfl, if_pos rfl]
  rw [show store_Sum.f l0 = some (crc l0) by unfold store_Sum.f; rw [if_pos hb], Option.bind_some, refsum_is hb (by omega) (by omega), Option.bind_some, if_pos rfl, hp, Option.bind_some, hp', Option.bind_some]
  simp
end Go.Proofs.YtkeegknadegaaaaDoor.Q
/-
  StoreTells: the row, of the function itself.
-/
namespace Go.Proofs.YtkeegknadegaaaaDoor.storeTells
open Go.ChangeShapes Go.WideShapes Go.ChangeAt Go.RowKit Go.Proofs.YtkeegknadegaaaaDoor.Q
open Go.ChangeMaps (open_string shut_string)
open Go.WideMaps (ArrKey open_pair shut_pair)
set_option linter.unusedVariables false
theorem own : ownKnob Tryd.prog.godebug = none := by kernel_rfl
theorem laidOut : laidOutB Tryd.prog = true := by kernel_rfl
def IsRow (k : IntKind) (w : World) (a : Option Addr) (len cap : Nat) (zs : List Int) : Prop :=
  (a = none ∧ len = 0 ∧ cap = 0 ∧ zs = []) ∨
  ∃ x, a = some x ∧ len ≤ cap ∧ cap ≤ maxLen ∧ zs.length = cap ∧ (∀ i, i < zs.length → w.cell? (x.add i) = some (.int k (zs.getD i 0))) ∧ ∀ n ∈ zs, (Lit.int k n).wf = true
set_option maxRecDepth 100000 in
theorem lifted (os : Os) (started : os.Started) (H : Type) (enc : TypeId × Value → H) :
    ReturnsInHanded {} Tryd.checked os 3 .any (fun w args => (Rows.storeTellsSpec.pre enc Tryd.prog Tryd.f3 [] false w args ∧ laidMetH Tryd.prog Rows.storeTellsRow.laid w) ∧ sizedMet enc Tryd.prog Tryd.f3 (OpenSpec.ofChange Rows.storeTellsSpec) false w args)
      (Rows.storeTellsSpec.post enc Tryd.prog Tryd.f3 false true false false) := by
  refine returnsInHanded_of_change_and (C := Tryd.checked) (X := fun w _ => laidMetH Tryd.prog Rows.storeTellsRow.laid w) (fun _ _ _ hh h => h.of_heap hh) own started (by kernel_rfl) Tryd.func3
    (ChangeSpec.witness_at (enc := enc) (C := Tryd.checked) (os := os) (X := fun w _ => laidMetH Tryd.prog Rows.storeTellsRow.laid w) false (laidWorld os) #[.slice none 0 0, .agg #[.string ⟨#[]⟩, .string ⟨#[]⟩]] 8 rfl (by kernel_rfl) (by kernel_rfl) (by kernel_rfl) (by kernel_rfl) (by kernel_rfl) (laidWorld_met os _)) ?_
  intro W base args ds gs before hval0 hW hcnd hsz0 hL _
  have hg := gok_of_laid hL
  have hsz : (DataW.weightsEach Tryd.prog (Tryd.f3.params.toList ++ Rows.storeTellsSpec.plain.varTypes Tryd.prog) (ds ++ gs)).all (· ≤ reachBytes) = true := hsz0
  have hval : ∀ (j : Nat) t v, Tryd.f3.params[j]? = some t → args[j]? = some v → Value.okWide Tryd.prog W .any base t v := hval0
  have hW' := hW
  obtain ⟨p, q, hA0, hV, rfl, hfz, hnd⟩ := hW
  have hA : DataW.TrodAll enc Tryd.prog W 0 (fun _ => true) true Tryd.f3.params.toList args.toList ds p := hA0
  rw [Tryd.params3] at hA hval hsz
  obtain ⟨v0, vs0, d0, ds0, p0, q0, hargs, rfl, rfl, h0, r0⟩ := trodAll_cons hA
  obtain ⟨v1, vs1, d1, ds1, p1, q1, rfl, rfl, rfl, h1, r1⟩ := trodAll_cons r0
  obtain ⟨rfl, rfl, rfl⟩ := trodAll_nil r1
  obtain rfl : args = #[v0, v1] := by cases args; simp_all
  obtain ⟨rfl, rfl⟩ := trodVars_none hV
  obtain ⟨a0, len0, cap0, rfl⟩ := okWide_slice Tryd.underlying22 (hval 0 22 v0 rfl rfl)
  have k0 := h0
  have lt0 : ∀ x ∈ p0, x.block < W.heap.size := by obtain ⟨m, hm⟩ := k0; exact DataW.trod_lt m _ _ _ hm
  obtain ⟨z0, w0⟩ : ∃ zs, IsRow .u8 W a0 len0 cap0 zs := by
    obtain ⟨fuel, hf⟩ := h0
    rcases open_ints Tryd.underlying22 Tryd.underlying5 (by kernel_rfl) hf with ⟨hcs, _⟩ | ⟨x, l, c, zs, hcs, _, hl, hm, hz, _, hcell, hwz⟩
    · simp [Value.cells] at hcs
      obtain ⟨rfl, rfl, rfl⟩ := hcs
      exact ⟨[], .inl ⟨rfl, rfl, rfl, rfl⟩⟩
    · simp [Value.cells] at hcs
      obtain ⟨rfl, rfl, rfl⟩ := hcs
      exact ⟨zs, .inr ⟨_, rfl, hl, hm, by simpa using hz, hcell, hwz⟩⟩
  have y0 : len0 * 1 ≤ 140737488351232 := Go.Proofs.YtkeegknadegaaaaDoorW.PrintWords.sized_ints hsz (j := 0) (t := 22) rfl rfl Tryd.underlying22 Tryd.underlying5 (by kernel_rfl) (by kernel_rfl) h0
  obtain ⟨l0, rfl, hr0, hm0, hw0, hc0⟩ := Go.Proofs.YtkeegknadegaaaaDoorW.PrintWords.ReadsInt.ofRowC w0
  have k1 := h1
  have lt1 : ∀ x ∈ p1, x.block < W.heap.size := by obtain ⟨m, hm⟩ := k1; exact DataW.trod_lt m _ _ _ hm
  obtain ⟨s1_0, s1_1, rfl, hs1_0, hs1_1⟩ := open_entry (hval 1 24 v1 rfl rfl) h1
  clear hA0 hval0 hsz0 hsz
  obtain ⟨k, h⟩ := (Q.tells_pure l0 s1_0 s1_1 (Q.bytesB_of hw0))
  refine (Q.zigguratlaw30_StoreTells.calls k _ _ l0 s1_0 s1_1 true W (Go.Proofs.YtkeegknadegaaaaDoorW.PrintWords.Kd.C_of_reads (d := (0 : Int)) (h1 := fun _ => rfl) hr0) hc0 hg h).mono fun e W' ⟨he, bel⟩ => ?_
  subst he
  exact ⟨_, rfl, _, _, _, [], _, [], hW', trodAll_mk1 (shut_bool Tryd.underlying4 _), (trodAll_cons_mk (Below.trod laidOut (by kernel_rfl) (of_decide_eq_true (by kernel_rfl)) k0 bel lt0) (trodAll_cons_mk (Below.trod laidOut (by kernel_rfl) (of_decide_eq_true (by kernel_rfl)) k1 bel lt1) trodAll_mk0)), rfl, bel.frame _, fun h => by cases h⟩
theorem over : Rows.storeTellsRow.holds Tryd.pinned (OpenSpec.ofChange Rows.storeTellsSpec) :=
  OpenClaim.holds_of_wide 3 Tryd.f3 rfl rfl rfl rfl rfl rfl rfl ⟨rfl, rfl, rfl, rfl, rfl⟩ rfl rfl rfl rfl rfl (by kernel_rfl) Tryd.func3 (by kernel_rfl)
    (of_decide_eq_true (by kernel_rfl)) (by unfold Func.isWrapper; first | (rw [if_pos (by decide +kernel)]; kernel_rfl) | (rw [if_neg (by decide +kernel)]; exact ⟨rfl, rfl⟩))
    (fun os started H enc _ => lifted os started H enc)
end Go.Proofs.YtkeegknadegaaaaDoor.storeTells
namespace Go.Proofs.YtkeegknadegaaaaDoor
open Go
/-- The row, under a short name. -/
theorem storeTells_holds : Rows.StoreTellsSaid := storeTells.over
end Go.Proofs.YtkeegknadegaaaaDoor
/-
  StoreTells: the tied card.
-/
namespace Go.Proofs.YtkeegknadegaaaaDoor
open Go
theorem storeTells_plainParams : ∀ t ∈ Tryd.f3.params.toList, Tryd.prog.wantsStandIn t = false := by
  rw [Tryd.params3]
  intro t ht
  simp only [List.mem_cons, List.not_mem_nil, or_false] at ht
  first
    | (rcases ht with rfl | rfl | rfl <;> kernel_rfl)
    | (rcases ht with rfl | rfl <;> kernel_rfl)
    | (subst ht; kernel_rfl)
theorem storeTells_card : Rows.StoreTellsCardSaid :=
  Claim7.holds_tied_plain_at .later [] [.handle] true (true, "34bdef4e9bffb480d87468241b17d7559861034fec9fdb17c8b41cbaa0e36c65") true
    storeTells_holds (fun _ h => by cases h) (by kernel_rfl) (fun _ h => by cases h) storeTells_row_tie rfl ⟨rfl, rfl⟩ (by kernel_rfl) rfl
    (fun f fn hf hfn => by
      obtain rfl : f = 3 := Option.some.inj ((show Tryd.prog.funcNamed "ziggurat/zigguratlaw30.StoreTells" = some 3 by kernel_rfl).symm.trans hf) |>.symm
      obtain rfl : fn = Tryd.f3 := (Option.some.inj (Tryd.func3.symm.trans hfn)).symm
      exact ⟨by kernel_rfl, fun j t ht => storeTells_plainParams t (List.mem_of_getElem? (l := Tryd.f3.params.toList) (i := j) (by simpa using ht))⟩)
    (by kernel_rfl)
#print axioms storeTells_card
end Go.Proofs.YtkeegknadegaaaaDoor
