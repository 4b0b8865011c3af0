/-
  Reading in plain words: a record ahead of any bytes; what a well record is; a log of records, and any bytes behind it.
-/
import Derived.Test.YtkeegknadegaaaaDoorHRep
import Derived.Test.YtkeegknadegaaaaDoorHApp
import Derived.Test.YtkeegknadegaaaaDoorSLin
namespace Go.Proofs.YtkeegknadegaaaaDoor.Q
open Go.RowKit Go.Proofs.YtkeegknadegaaaaDoor.S Go.Proofs.YtkeegknadegaaaaDoorW.PrintWords
set_option linter.unusedVariables false

theorem str_bytes (s : ByteArray) : strOfNums (bytesOf s) = s := by
  have e : (strOfNums (bytesOf s)).data.toList = s.data.toList := by
    rw [strOfNums_data, bytesOf, List.map_map]
    conv => rhs; rw [← List.map_id s.data.toList]
    refine List.map_congr_left fun b _ => ?_
    simp
  cases h : strOfNums (bytesOf s) with
  | mk a =>
    rw [h] at e
    cases s with
    | mk b => exact congrArg ByteArray.mk (Array.toList_inj.1 e)
theorem bytes_str {l : List Int} (h : bytesB l = true) : bytesOf (strOfNums l) = l := by
  rw [bytesOf, strOfNums_data, List.map_map]
  conv => rhs; rw [← List.map_id l]
  refine List.map_congr_left fun x hx => ?_
  have := (bytesB_iff.1 h) x hx
  simp
  omega
theorem rd_app (l m : List Int) (i : Nat) (h : i < l.length) : rd (l ++ m) (i : Int) = rd l (i : Int) := by
  simp [rd, List.getD, List.getElem?_append_left h]
theorem num4_app (l m : List Int) (h : 4 ≤ l.length) : num4 (l ++ m) = num4 l := by
  rw [num4_eq, num4_eq]
  rw [show (0 : Int) = ((0 : Nat) : Int) from rfl, show (1 : Int) = ((1 : Nat) : Int) from rfl, show (2 : Int) = ((2 : Nat) : Int) from rfl, show (3 : Int) = ((3 : Nat) : Int) from rfl, rd_app l m 0 (by omega), rd_app l m 1 (by omega), rd_app l m 2 (by omega), rd_app l m 3 (by omega)]
theorem num4_four (x : Int) (h0 : 0 ≤ x) (h1 : x < 4294967296) : num4 (fourL x) = x := by
  rw [num4_eq]
  show x % 256 + 256 * (x / 256 % 256) + 65536 * (x / 65536 % 256) + 16777216 * (x / 16777216 % 256) = x
  omega
theorem num4_four_app (x : Int) (m : List Int) (h0 : 0 ≤ x) (h1 : x < 4294967296) : num4 (fourL x ++ m) = x := by
  rw [num4_app _ _ (by rw [fourL_length]; omega), num4_four x h0 h1]
/-- A record ahead of any bytes is read. -/
theorem entryOf_rec (n t : ByteArray) (rest : List Int) (hm : mayB n t = true) : entryOf (recOf n t ++ rest) = .good n t (9 + n.size + t.size) := by
  obtain ⟨h1, h2, h3⟩ := mayB_iff.1 hm
  have hbl := bodyOf_length n t
  have hrl := recOf_length n t
  have hN : num4 (recOf n t ++ rest) = ((1 + n.size + t.size : Nat) : Int) := by
    unfold recOf bodyOf
    simp only [List.append_assoc]
    exact num4_four_app _ _ (by omega) (by omega)
  have hNt : (num4 (recOf n t ++ rest)).toNat = 1 + n.size + t.size := by rw [hN]; omega
  have ht : (recOf n t ++ rest).take (4 + (1 + n.size + t.size)) = bodyOf n t := by
    unfold recOf
    rw [List.append_assoc, List.take_append_of_le_length (by omega), List.take_of_length_le (by omega)]
  have hd : (recOf n t ++ rest).drop (4 + (1 + n.size + t.size)) = fourL (crc (bodyOf n t)) ++ rest := by
    unfold recOf
    rw [List.append_assoc, List.drop_append_of_le_length (by omega), List.drop_of_length_le (by omega)]
    rfl
  have hp : payOf (recOf n t ++ rest) (1 + n.size + t.size) = [(n.size : Int)] ++ bytesOf n ++ bytesOf t := by
    unfold payOf
    rw [ht]
    unfold bodyOf
    simp only [List.append_assoc]
    rw [List.drop_append_of_le_length (by rw [fourL_length]; omega), List.drop_of_length_le (by rw [fourL_length]; omega)]
    rfl
  have hr : rd ([(n.size : Int)] ++ bytesOf n ++ bytesOf t) 0 = n.size := rfl
  have hna : namOf ([(n.size : Int)] ++ bytesOf n ++ bytesOf t) = bytesOf n := by
    unfold namOf
    rw [hr, Int.toNat_natCast, List.append_assoc, List.singleton_append, show 1 + n.size = n.size + 1 by omega, List.take_succ_cons, List.drop_succ_cons, List.drop_zero]
    rw [List.take_append_of_le_length (by rw [bytesOf_length]; omega), List.take_of_length_le (by rw [bytesOf_length]; omega)]
  have hta : txtOf ([(n.size : Int)] ++ bytesOf n ++ bytesOf t) = bytesOf t := by
    unfold txtOf
    rw [hr, Int.toNat_natCast, List.append_assoc, List.singleton_append, show 1 + n.size = n.size + 1 by omega, List.drop_succ_cons]
    rw [List.drop_append_of_le_length (by rw [bytesOf_length]; omega), List.drop_of_length_le (by rw [bytesOf_length]; omega)]
    rfl
  have hlen : (recOf n t ++ rest).length = 9 + n.size + t.size + rest.length := by rw [List.length_append, hrl]
  have hcr := crc_range (bodyOf n t)
  unfold entryOf
  rw [hNt, ht, hd, hp, hr, hna, hta, Int.toNat_natCast, num4_four_app _ _ hcr.1 hcr.2, hlen]
  rw [if_neg (by omega), if_neg (by omega), if_neg (by simp), if_neg (by omega), if_neg (by omega), if_neg (by simp [mayN]; omega), str_bytes, str_bytes]
  congr 1
  omega
/-- What is read as well is a record. -/
theorem entryOf_inv {l : List Int} {n t : ByteArray} {k : Nat} (hb : bytesB l = true) (h : entryOf l = .good n t k) : mayB n t = true ∧ k = 9 + n.size + t.size ∧ l.take k = recOf n t := by
  have hk := entryOf_good h
  unfold entryOf at h
  obtain ⟨m, hm⟩ : ∃ m, m = (num4 l).toNat := ⟨_, rfl⟩
  rw [← hm] at h
  split at h
  · cases h
  rename_i g1
  split at h
  · cases h
  rename_i g2
  split at h
  · cases h
  rename_i g3
  split at h
  · cases h
  rename_i g4
  split at h
  · cases h
  rename_i g5
  split at h
  · cases h
  rename_i g6
  injection h with e1 e2 e3
  have hpl : (payOf l m).length = m := payOf_length (by omega)
  have hpb : bytesB (payOf l m) = true := by unfold payOf; exact bytesB_drop (bytesB_take hb _) _
  obtain ⟨q, hq⟩ : ∃ q, q = (rd (payOf l m) 0).toNat := ⟨_, rfl⟩
  rw [← hq] at g5 g6
  have hnl : (namOf (payOf l m)).length = q := by unfold namOf; rw [← hq, List.length_drop, List.length_take]; omega
  have htl : (txtOf (payOf l m)).length = m - 1 - q := by unfold txtOf; rw [← hq, List.length_drop]; omega
  have hn : n.size = q := by rw [← e1, strOfNums_size, hnl]
  have ht : t.size = m - 1 - q := by rw [← e2, strOfNums_size, htl]
  have hnb : bytesB (namOf (payOf l m)) = true := by unfold namOf; exact bytesB_drop (bytesB_take hpb _) _
  have htb : bytesB (txtOf (payOf l m)) = true := by unfold txtOf; exact bytesB_drop hpb _
  have bn : bytesOf n = namOf (payOf l m) := by rw [← e1, bytes_str hnb]
  have bt' : bytesOf t = txtOf (payOf l m) := by rw [← e2, bytes_str htb]
  have hmay : mayB n t = true := by
    rw [mayB_iff, hn, ht]
    have g6' : mayN q (m - 1 - q) = true := by simpa using g6
    simp [mayN] at g6'
    omega
  have hx0 := (bytesB_iff.1 hpb) (payOf l m)[0] (List.getElem_mem (by omega))
  have hrd : rd (payOf l m) 0 = (payOf l m)[0]'(by omega) := by simp [rd, List.getD, show 0 < (payOf l m).length by omega]
  have hpay : payOf l m = [(n.size : Int)] ++ bytesOf n ++ bytesOf t := by
    rw [bn, bt', hn]
    have c0 : payOf l m = (payOf l m)[0]'(by omega) :: (payOf l m).drop 1 := by
      have := List.drop_eq_getElem_cons (l := payOf l m) (i := 0) (by omega)
      simpa using this
    have c1 : namOf (payOf l m) ++ txtOf (payOf l m) = (payOf l m).drop 1 := by
      unfold namOf txtOf
      rw [← hq, List.drop_take, show 1 + q - 1 = q by omega, ← List.drop_drop, List.take_append_drop]
    rw [List.append_assoc, c1, List.singleton_append]
    conv => lhs; rw [c0]
    congr 1
    rw [hrd] at hq
    omega
  have hnum := numTop_range hb (by omega) 4 (by omega)
  have hnr : 0 ≤ num4 l ∧ num4 l < 4294967296 := by simpa [num4] using hnum
  have hmI : (m : Int) = num4 l := by omega
  have hb4 : ∀ (l' : List Int), bytesB l' = true → 4 ≤ l'.length → l'.take 4 = fourL (num4 l') := by
    intro l' hb' hl'
    match l', hl' with
    | a :: b :: c :: d :: r, _ =>
      have ha := (bytesB_iff.1 hb') a (by simp)
      have hb2 := (bytesB_iff.1 hb') b (by simp)
      have hc := (bytesB_iff.1 hb') c (by simp)
      have hd := (bytesB_iff.1 hb') d (by simp)
      have e : num4 (a :: b :: c :: d :: r) = a + 256 * b + 65536 * c + 16777216 * d := by rw [num4_eq]; rfl
      rw [e]
      show [a, b, c, d] = [_, _, _, _]
      congr 1
      · omega
      congr 1
      · omega
      congr 1
      · omega
      congr 1
      omega
  have hbody : l.take (4 + m) = bodyOf n t := by
    have c0 : l.take (4 + m) = l.take 4 ++ payOf l m := by
      have := List.take_append_drop 4 (l.take (4 + m))
      rw [List.take_take, show min 4 (4 + m) = 4 by omega] at this
      exact this.symm
    rw [c0, hb4 l hb (by omega), hpay, ← hmI]
    unfold bodyOf
    rw [show (1 + n.size + t.size : Nat) = m by omega]
    simp only [List.append_assoc]
  have hsum : (l.drop (4 + m)).take 4 = fourL (crc (bodyOf n t)) := by
    rw [hb4 _ (bytesB_drop hb _) (by rw [List.length_drop]; omega)]
    have g3' : crc (l.take (4 + m)) = num4 (l.drop (4 + m)) := by simpa using g3
    rw [← g3', hbody]
  refine ⟨hmay, by omega, ?_⟩
  rw [← e3, show 8 + m = (4 + m) + 4 by omega, List.take_add, hbody, hsum]
  rfl
theorem bytesB_of {l : List Int} (h : ∀ x ∈ l, (Lit.int .u8 x).wf = true) : bytesB l = true := by
  rw [bytesB_iff]
  intro x hx
  have := h x hx
  have h0 : IntKind.u8.min = 0 := rfl
  have h1 : IntKind.u8.max = 255 := rfl
  simp [Lit.wf, h0, h1] at this
  omega
def shiftG (p : Nat) (g : RecG) : RecG := (g.1, g.2.1, p + g.2.2)
theorem scan_shift : ∀ (f : Nat) (l : List Int) (p q : Nat), p ≤ l.length → scan f l (p + q) = ((scan f (l.drop p) q).1.map (shiftG p), (scan f (l.drop p) q).2)
  | 0, _, _, _, _ => rfl
  | f + 1, l, p, q, hp => by
    simp only [scan, List.length_drop, List.drop_drop]
    by_cases h : l.length ≤ p + q
    · rw [if_pos h, if_pos (by omega)]; rfl
    · rw [if_neg h, if_neg (by omega)]
      cases he : entryOf (l.drop (p + q)) with
      | bad c => rfl
      | good n t k =>
        have ih := scan_shift f l p (q + k) hp
        simp only [List.map_cons, shiftG, Nat.add_assoc]
        rw [ih]
theorem scan_fuel : ∀ (f f' : Nat) (l : List Int) (p : Nat), l.length - p < f → l.length - p < f' → scan f l p = scan f' l p
  | 0, _, _, _, h, _ => by omega
  | _ + 1, 0, _, _, _, h => by omega
  | f + 1, f' + 1, l, p, h1, h2 => by
    simp only [scan]
    by_cases h : l.length ≤ p
    · rw [if_pos h, if_pos h]
    · rw [if_neg h, if_neg h]
      cases he : entryOf (l.drop p) with
      | bad c => rfl
      | good n t k =>
        have hk := entryOf_good he
        rw [List.length_drop] at hk
        simp only
        rw [scan_fuel f f' l (p + k) (by omega) (by omega)]
/-- What reading tells: the entries, how many bytes they have, what is wrong behind. -/
def readL (l : List Int) : List S24 × Nat × Int := (entsOf (scan (l.length + 1) l 0).1, endOf (scan (l.length + 1) l 0).1, (scan (l.length + 1) l 0).2)
theorem read_is {l : List Int} (hb : bytesB l = true) (hl : l.length ≤ 100000000000) : store_Read.f l = some ((readL l).1, ((readL l).2.1 : Int), (readL l).2.2) := by
  unfold store_Read.f
  rw [if_pos ⟨hb, hl⟩]; rfl
theorem repair_is {l : List Int} (hb : bytesB l = true) (hl : l.length ≤ 100000000000) : store_Repair.f l = some (l.take (readL l).2.1) := by
  unfold store_Repair.f
  rw [read_is hb hl]
  simp
theorem endOf_shift (p : Nat) (g : RecG) (G : List RecG) (hg : g.2.2 = p) : endOf (g :: G.map (shiftG p)) = p + endOf G := by
  unfold endOf
  cases h : G.getLast? with
  | none =>
    have : G = [] := List.getLast?_eq_none_iff.1 h
    subst this
    simp [hg]
  | some x =>
    have hne : G ≠ [] := fun e => by subst e; simp at h
    rw [List.getLast?_cons, List.getLast?_map, h]
    simp [shiftG]
theorem entsOf_shift (p : Nat) (G : List RecG) : entsOf (G.map (shiftG p)) = entsOf G := by
  unfold entsOf
  rw [List.map_map]
  rfl
/-- One more record ahead. -/
theorem readL_good {l : List Int} {n t : ByteArray} {k : Nat} (h : entryOf l = .good n t k) : readL l = (⟨n, t⟩ :: (readL (l.drop k)).1, k + (readL (l.drop k)).2.1, (readL (l.drop k)).2.2) := by
  have hk := entryOf_good h
  have e : scan (l.length + 1) l 0 = ((n, t, k) :: (scan ((l.drop k).length + 1) (l.drop k) 0).1.map (shiftG k), (scan ((l.drop k).length + 1) (l.drop k) 0).2) := by
    rw [scan, if_neg (by omega), List.drop_zero, h]
    simp only [Nat.zero_add]
    have h1 := scan_shift l.length l k 0 (by omega)
    rw [Nat.add_zero] at h1
    rw [h1, scan_fuel l.length ((l.drop k).length + 1) (l.drop k) 0 (by rw [List.length_drop]; omega) (by omega)]
  unfold readL
  rw [e]
  refine Prod.ext ?_ (Prod.ext ?_ rfl)
  · show entsOf ((n, t, k) :: _) = _
    rw [show entsOf ((n, t, k) :: (scan ((l.drop k).length + 1) (l.drop k) 0).1.map (shiftG k)) = ⟨n, t⟩ :: entsOf ((scan ((l.drop k).length + 1) (l.drop k) 0).1.map (shiftG k)) from rfl, entsOf_shift]
  · exact endOf_shift k (n, t, k) _ rfl
theorem readL_bad {l : List Int} {c : Int} (hne : l ≠ []) (h : entryOf l = .bad c) : readL l = ([], 0, c) := by
  have : 0 < l.length := List.length_pos_iff.2 hne
  unfold readL
  rw [scan, if_neg (by omega), List.drop_zero, h]
  rfl
theorem readL_nil : readL [] = ([], 0, 0) := rfl
theorem readL_rec (n t : ByteArray) (rest : List Int) (hm : mayB n t = true) : readL (recOf n t ++ rest) = (⟨n, t⟩ :: (readL rest).1, (recOf n t).length + (readL rest).2.1, (readL rest).2.2) := by
  have h := readL_good (entryOf_rec n t rest hm)
  have hl := recOf_length n t
  rw [← hl, List.drop_left] at h
  exact h
def logOf (es : List S24) : List Int := es.flatMap fun e => recOf e.f0 e.f1
theorem logOf_cons (e : S24) (es : List S24) : logOf (e :: es) = recOf e.f0 e.f1 ++ logOf es := rfl
theorem logOf_append (a b : List S24) : logOf (a ++ b) = logOf a ++ logOf b := by simp [logOf]
def mayAll (es : List S24) : Prop := ∀ e ∈ es, mayB e.f0 e.f1 = true
/-- A whole log, and any bytes behind it. -/
theorem readL_log : ∀ (es : List S24) (rest : List Int), mayAll es → readL (logOf es ++ rest) = (es ++ (readL rest).1, (logOf es).length + (readL rest).2.1, (readL rest).2.2)
  | [], rest, _ => by simp [logOf]
  | e :: es, rest, h => by
    rw [logOf_cons, List.append_assoc, readL_rec e.f0 e.f1 _ (h e (by simp)), readL_log es rest (fun x hx => h x (by simp [hx]))]
    simp only [List.cons_append, List.length_append, Nat.add_assoc]
theorem readL_whole (es : List S24) (h : mayAll es) : readL (logOf es) = (es, (logOf es).length, 0) := by
  have := readL_log es [] h
  simpa [readL_nil] using this
theorem logOf_bytes (es : List S24) (h : mayAll es) : bytesB (logOf es) = true := by
  induction es with
  | nil => rfl
  | cons e es ih =>
    rw [logOf_cons, bytesB_append, ih (fun x hx => h x (by simp [hx])), recOf_range _ _ (by have := mayB_iff.1 (h e (by simp)); omega)]
    rfl
/-- Whatever bytes: what is told is a log of records that is their part. -/
theorem readL_inv : ∀ (m : Nat) (l : List Int), l.length ≤ m → bytesB l = true → mayAll (readL l).1 ∧ logOf (readL l).1 = l.take (readL l).2.1 ∧ (readL l).2.1 ≤ l.length ∧ ((readL l).2.2 = 0 ↔ (readL l).2.1 = l.length) := by
  intro m
  induction m with
  | zero =>
    intro l hl _
    obtain rfl : l = [] := List.eq_nil_of_length_eq_zero (by omega)
    rw [readL_nil]
    exact ⟨fun x hx => by simp at hx, rfl, Nat.le_refl _, by simp⟩
  | succ m ih =>
    intro l hl hb
    by_cases hne : l = []
    · subst hne
      rw [readL_nil]
      exact ⟨fun x hx => by simp at hx, rfl, Nat.le_refl _, by simp⟩
    have hpos : 0 < l.length := List.length_pos_iff.2 hne
    cases h : entryOf l with
    | bad c =>
      rw [readL_bad hne h]
      have := entryOf_bad h
      refine ⟨fun x hx => by simp at hx, rfl, Nat.zero_le _, ?_⟩
      simp only
      omega
    | good n t k =>
      have hk := entryOf_good h
      obtain ⟨hm, hkl, hrec⟩ := entryOf_inv hb h
      obtain ⟨i1, i2, i3, i4⟩ := ih (l.drop k) (by rw [List.length_drop]; omega) (bytesB_drop hb k)
      rw [readL_good h]
      rw [List.length_drop] at i3 i4
      refine ⟨?_, ?_, ?_, ?_⟩
      · intro x hx
        simp only [List.mem_cons] at hx
        rcases hx with rfl | hx
        · exact hm
        · exact i1 x hx
      · simp only [logOf_cons]
        rw [i2, List.take_add, hrec]
      · simp only; omega
      · simp only; omega
end Go.Proofs.YtkeegknadegaaaaDoor.Q
