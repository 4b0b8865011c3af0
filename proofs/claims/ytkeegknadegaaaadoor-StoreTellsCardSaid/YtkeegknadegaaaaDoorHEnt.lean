/-
  store.entry, by hand: the entry of a log's first record, or a new block that holds what is wrong.
-/
import Derived.Test.YtkeegknadegaaaaDoorSEnt
import Derived.Test.YtkeegknadegaaaaDoorHSum
import Derived.Test.YtkeegknadegaaaaDoorHPut
import Derived.Outline
namespace Go.Proofs.YtkeegknadegaaaaDoor.Q
open Go.RowKit Go.Proofs.YtkeegknadegaaaaDoor.S Go.Proofs.YtkeegknadegaaaaDoorW.PrintWords Go.Proofs.YtkeegknadegaaaaDoorW.PrintLast Go.Proofs.YtkeegknadegaaaaDoorW.PrintMore
set_option linter.unusedVariables false
set_option linter.unusedSimpArgs false

theorem blk_drawn {w w' : World} (h : Drawn0 w w') {g : Nat} {o : Obj} (hb : w.heap[g]? = some o) : w'.heap[g]? = some o := by obtain ⟨n, rfl⟩ := h; exact hb
theorem below_drawn {B : Nat} {a w w' : World} (h : Drawn0 w w') (hb : Below B a w) : Below B a w' := by obtain ⟨n, rfl⟩ := h; exact pw_below_drewN hb n
theorem below_undrew {B : Nat} {a w : World} (h : Below B a w.drew) : Below B a w := ⟨h.os, h.tape, h.output, h.size, h.block⟩
theorem may_isN (n t : Nat) : store_may.f (n : Int) (t : Int) = some (mayN n t) := by
  unfold store_may.f mayN
  by_cases h1 : 1 ≤ n
  · rw [if_pos (by omega)]
    by_cases h2 : n ≤ 20
    · rw [if_pos (by omega)]; simp [h1, h2]; omega
    · rw [if_neg (by omega)]; simp [h2]
  · rw [if_neg (by omega)]; simp [h1]
section
variable {A0 : Option Addr} {c0 : Nat} {l0 : List Int}
theorem cut_drop (m : Nat) (hm : m ≤ l0.length) (hc : l0.length ≤ c0) : ∃ A' : Option Addr, (∀ W : World, (Instr.slice 22 (.slice A0 l0.length c0) (some (.int .i64 (m : Int))) none none).run Tryd.prog W = .ok (.slice A' (l0.drop m).length (c0 - m)) W) ∧
    (∀ w : World, Kd.C (Kd.int .u8) w A0 l0.length l0 → Kd.C (Kd.int .u8) w A' (l0.drop m).length (l0.drop m)) ∧ (l0.drop m).length ≤ c0 - m := by
  obtain ⟨i0, hi, hz0, hz1, hz2⟩ := info_parts info5
  obtain ⟨A', h1, h2, h3⟩ := print_drop_of (P := Tryd.prog) (Value.int .u8) (0 : Int) 22 5 .i64 Tryd.underlying22 hi hz1 A0 c0 l0 (m : Int) (by omega) (by omega) hc
  simp only [Int.toNat_natCast] at h1 h2 h3
  exact ⟨A', h1, fun w h => Kd.C_of_reads (h1 := fun _ => rfl) (h2 w (Kd.reads_of_C (enc := Value.int .u8) (h1 := fun _ => rfl) h)), h3⟩
theorem cut_mid (a b : Nat) (hab : a ≤ b) (hm : b ≤ l0.length) (hc : l0.length ≤ c0) : ∃ A' : Option Addr, (∀ W : World, (Instr.slice 22 (.slice A0 l0.length c0) (some (.int .i64 (a : Int))) (some (.int .i64 (b : Int))) none).run Tryd.prog W = .ok (.slice A' ((l0.take b).drop a).length (c0 - a)) W) ∧
    (∀ w : World, Kd.C (Kd.int .u8) w A0 l0.length l0 → Kd.C (Kd.int .u8) w A' ((l0.take b).drop a).length ((l0.take b).drop a)) ∧ ((l0.take b).drop a).length ≤ c0 - a := by
  obtain ⟨i0, hi, hz0, hz1, hz2⟩ := info_parts info5
  obtain ⟨A', h1, h2, h3⟩ := print_mid_of (P := Tryd.prog) (Value.int .u8) (0 : Int) 22 5 .i64 .i64 Tryd.underlying22 hi hz1 A0 c0 l0 (a : Int) (b : Int) (by omega) (by omega) (by omega) hc
  simp only [Int.toNat_natCast] at h1 h2 h3
  exact ⟨A', h1, fun w h => Kd.C_of_reads (h1 := fun _ => rfl) (h2 w (Kd.reads_of_C (enc := Value.int .u8) (h1 := fun _ => rfl) h)), h3⟩
theorem cut_take (b : Nat) (hm : b ≤ l0.length) (hc : l0.length ≤ c0) : (∀ W : World, (Instr.slice 22 (.slice A0 l0.length c0) none (some (.int .i64 (b : Int))) none).run Tryd.prog W = .ok (.slice A0 (l0.take b).length c0) W) := by
  obtain ⟨i0, hi, hz0, hz1, hz2⟩ := info_parts info5
  have h1 := (print_take_int (P := Tryd.prog) (k := .u8) 22 5 Tryd.underlying22 hi hz1 A0 c0 l0 (b : Int) (by omega) (by omega) hc).1
  simpa using h1
end
def emptyB : ByteArray := ⟨#[]⟩
/-- What is said of a record that is wrong. -/
def BadPost (c : Int) (w : World) (e : Ending) (w' : World) : Prop :=
  ∃ B : Nat, e = .returned (.tuple #[.agg #[.string ⟨#[]⟩, .string ⟨#[]⟩], .int .i64 0, .iface 59 (.pointer (some ⟨B, 0, none⟩))]) ∧ w.heap.size ≤ B ∧ w'.heap[B]? = some (.cells #[.int .i64 c] 63 (0, 0)) ∧ Below w.heap.size w w'


def store_entry.T5 : Bool × List (List Nat × List Nat) := (true, [([], []), ([], []), ([0, 1], [0, 1]), ([2], [2]), ([3], [3]), ([], []), ([], []), ([5, 6], [5, 6]), ([7, 3], [7]), ([4, 8], [4, 8]), ([9, 8], [9]), ([10], [10]), ([11, 10], [10, 11]), ([12, 10], [10, 12]), ([10, 13], [10, 13])])
def store_entry.B5 : List Nat := [0, 0, 3, 7, 15, 0, 0, 96, 239, 511, 1023, 2047, 4095, 8191, 16383]
theorem store_entry.tab5 : rtab .any (opsOf Tryd.f32 5) = store_entry.T5 := by kernel_rfl
theorem store_entry.bits5 : waitsOk store_entry.T5.2 store_entry.B5 = true := by kernel_rfl
def store_entry.T11 : Bool × List (List Nat × List Nat) := (true, [([], []), ([], []), ([1], [1]), ([0, 2], [0, 2]), ([3], [3]), ([], []), ([], []), ([6], [6]), ([5, 7], [5, 7]), ([8], [8]), ([4, 9], [4, 9]), ([], []), ([11], [11]), ([10, 0, 1, 2, 3, 4, 5, 6, 7, 8, 9, 10], [10]), ([12, 13, 0, 1, 2, 3, 4, 5, 6, 7, 8, 9, 10, 11, 12, 13], [12]), ([14, 0, 1, 2, 3, 4, 5, 6, 7, 8, 9, 10, 11, 12, 13, 14], [])])
def store_entry.B11 : List Nat := [0, 0, 2, 7, 15, 0, 0, 64, 224, 480, 1023, 0, 2048, 2047, 16383, 32767]
theorem store_entry.tab11 : rtab .any (opsOf Tryd.f32 11) = store_entry.T11 := by kernel_rfl
theorem store_entry.bits11 : waitsOk store_entry.T11.2 store_entry.B11 = true := by kernel_rfl
set_option maxHeartbeats 8000000 in
set_option maxRecDepth 100000 in
theorem entry_short (A0 : Option Addr) (c0 : Nat) (l0 : List Int) (w : World) (h : l0.length < 4) :
    Calls Tryd.prog 32 #[.slice A0 l0.length c0] w (BadPost 301 w) := by
  have h1 : decide ((l0.length : Int) < 4) = true := decide_eq_true (by omega)
  have h2 : decide (l0.length < 4) = true := decide_eq_true h
  go_enter Tryd.func32, Tryd.ntmps32
  go_wp2
  exact bodyPost_ret (results_ctt rfl _ _ w.heap.size 24 #[.string ⟨#[]⟩, .string ⟨#[]⟩] (0, 0) _ rfl (blk_alloc (blk_new w _) _) Tryd.underlying24 rfl (by kernel_rfl)) rfl ⟨w.heap.size + 1, rfl, by omega, by simpa using blk_new (w.alloc (.cells #[.string ⟨#[]⟩, .string ⟨#[]⟩] 24)) (.cells #[.int .i64 301] 63), (by repeat (first | exact Below.refl _ _ | apply below_alloc | apply pw_below_drewN | apply below_drew1))⟩

set_option maxHeartbeats 8000000 in
set_option maxRecDepth 100000 in
theorem entry_cut (A0 : Option Addr) (c0 : Nat) (l0 : List Int) (w : World) (hr0 : Kd.C (Kd.int .u8) w A0 l0.length l0) (hc : l0.length ≤ c0) (hb : bytesB l0 = true) (h : 4 ≤ l0.length) (hm : l0.length < 8 + (num4 l0).toNat) :
    Calls Tryd.prog 32 #[.slice A0 l0.length c0] w (BadPost 301 w) := by
  have h1 : decide ((l0.length : Int) < 4) = false := decide_eq_false (by omega)
  have h2 : decide (l0.length < 4) = false := decide_eq_false (by omega)
  have hmx : l0.length ≤ 9223372036854775807 := hr0.2.1
  have HR0 := Aside0.mk hr0
  have HC := Aside0.mk hc
  obtain ⟨r0, r1⟩ := num4_range hb h
  obtain ⟨m, hm4⟩ : ∃ m : Nat, num4 l0 = m := ⟨(num4 l0).toNat, by omega⟩
  have hn4 : store_number.f l0 = some (m : Int) := by unfold store_number.f; rw [if_pos ⟨hb, h⟩, hm4]
  have HN4 := Aside0.mk hn4
  rw [hm4, Int.toNat_natCast] at hm
  have h3 : (l0.length : Int) - 8 < (m : Int) := by omega
  have HM4 := Aside0.mk hm4
  have HBY := Aside0.mk hb
  clear hr0 hb hm r0 r1 hm4 hn4 hc
  go_enter Tryd.func32, Tryd.ntmps32
  go_wp2_with (go_at_call 38; refine (number_is _ _ l0 _ HM4.out _ (Kd.C_below HR0.out (by repeat (first | exact Below.refl _ _ | apply below_alloc | apply pw_below_drewN | apply below_drew1))) HBY.out h).mono ?_; rintro e w1 ⟨rfl, rfl⟩)
  exact bodyPost_ret (results_ctt rfl _ _ w.heap.size 24 #[.string ⟨#[]⟩, .string ⟨#[]⟩] (0, 0) _ rfl (blk_alloc (blk_new w _) _) Tryd.underlying24 rfl (by kernel_rfl)) rfl ⟨w.heap.size + 1, rfl, by omega, by simpa using blk_new (w.alloc (.cells #[.string ⟨#[]⟩, .string ⟨#[]⟩] 24)) (.cells #[.int .i64 301] 63), (by repeat (first | exact Below.refl _ _ | apply below_alloc | apply pw_below_drewN | apply below_drew1))⟩

set_option maxHeartbeats 8000000 in
set_option maxRecDepth 100000 in
theorem entry_sum (A0 : Option Addr) (c0 : Nat) (l0 : List Int) (w : World) (hr0 : Kd.C (Kd.int .u8) w A0 l0.length l0) (hc : l0.length ≤ c0) (hb : bytesB l0 = true) (h : 4 ≤ l0.length) (hm : 8 + (num4 l0).toNat ≤ l0.length) (hs : crc (l0.take (4 + (num4 l0).toNat)) ≠ num4 (l0.drop (4 + (num4 l0).toNat))) :
    Calls Tryd.prog 32 #[.slice A0 l0.length c0] w (BadPost 300 w) := by
  have h1 : decide ((l0.length : Int) < 4) = false := decide_eq_false (by omega)
  have h2 : decide (l0.length < 4) = false := decide_eq_false (by omega)
  have hmx : l0.length ≤ 9223372036854775807 := hr0.2.1
  have HR0 := Aside0.mk hr0
  have HC := Aside0.mk hc
  obtain ⟨r0, r1⟩ := num4_range hb h
  obtain ⟨m, hm4⟩ : ∃ m : Nat, num4 l0 = m := ⟨(num4 l0).toNat, by omega⟩
  have hn4 : store_number.f l0 = some (m : Int) := by unfold store_number.f; rw [if_pos ⟨hb, h⟩, hm4]
  have HN4 := Aside0.mk hn4
  rw [hm4, Int.toNat_natCast] at hm
  rw [hm4, Int.toNat_natCast] at hs
  have h3 : ¬ (l0.length : Int) - 8 < (m : Int) := by omega
  have hpm := cut_mid (A0 := A0) (c0 := c0) (l0 := l0) 4 (4 + m) (by omega) (by omega) hc
  have hpt := cut_take (A0 := A0) (c0 := c0) (l0 := l0) (4 + m) (by omega) hc
  have hpd := cut_drop (A0 := A0) (c0 := c0) (l0 := l0) (4 + m) (by omega) hc
  obtain ⟨A1, hq1, hC1, hl1⟩ := hpm
  obtain ⟨A2, hq2, hC2, hl2⟩ := hpd
  obtain ⟨T, hT⟩ : ∃ T, T = l0.take (4 + m) := ⟨_, rfl⟩
  obtain ⟨D, hD⟩ : ∃ D, D = l0.drop (4 + m) := ⟨_, rfl⟩
  obtain ⟨Q, hQ⟩ : ∃ Q, Q = (l0.take (4 + m)).drop 4 := ⟨_, rfl⟩
  rw [← hT, ← hD] at hs
  rw [← hT] at hpt
  rw [← hD] at hq2 hC2 hl2
  rw [← hQ] at hq1 hC1 hl1
  have hTl : T.length = 4 + m := by rw [hT, List.length_take]; omega
  have hDl : D.length = l0.length - (4 + m) := by rw [hD, List.length_drop]
  have hQl : Q.length = m := by rw [hQ, List.length_drop, List.length_take]; omega
  have hQB : bytesB Q = true := by rw [hQ]; exact bytesB_drop (bytesB_take hb _) _
  have hD4 : 4 ≤ D.length := by omega
  have hDB : bytesB D = true := by rw [hD]; exact bytesB_drop hb _
  have hsum : store_Sum.f T = some (crc T) := by unfold store_Sum.f; rw [if_pos (by rw [hT]; exact bytesB_take hb _)]
  have HSM := Aside0.mk hsum
  have hnum : store_number.f D = some (num4 D) := by unfold store_number.f; rw [if_pos ⟨hDB, hD4⟩]
  have HNM := Aside0.mk hnum
  have HCT := Aside0.mk (show Kd.C (Kd.int .u8) w A0 T.length T by rw [hT]; exact Kd.C_take hr0 (by omega))
  have HCD := Aside0.mk (hC2 w hr0)
  have HCQ := Aside0.mk (hC1 w hr0)
  have HTl := Aside0.mk (show T.length ≤ c0 by omega)
  have HDl := Aside0.mk hl2
  have HQl := Aside0.mk hl1
  have hcr := crc_range T
  have hwc : IntKind.i64.wrap (crc T) = crc T := by rw [IntKind.wrap_i64]; omega
  have hwc2 : wrap64 (crc T) = crc T := by unfold wrap64; omega
  have e4 : ((4 + m : Nat) : Int) = 4 + (m : Int) := by omega
  rw [e4, show ((4 : Nat) : Int) = 4 from rfl] at hq1
  rw [e4] at hq2
  have hpt' : ∀ W : World, (Instr.slice 22 (.slice A0 l0.length c0) none (some (.int .i64 (4 + (m : Int)))) none).run Tryd.prog W = .ok (.slice A0 T.length c0) W := by rw [← e4]; exact hpt
  have hm8 : 4 + (m : Int) ≤ (l0.length : Int) := by omega
  rw [hQl] at hq1
  have hne1 : (crc T == num4 D) = false := beq_eq_false_iff_ne.mpr hs
  have hne2 : (crc T != num4 D) = true := bne_iff_ne.mpr hs
  clear hs hQ hQl hQB HCQ HQl
  have HM4 := Aside0.mk hm4
  have HBY := Aside0.mk hb
  clear hr0 hb hc hm hT hD hC1 hC2 hl1 hl2 hTl hDl hsum hpt e4 r0 r1 hm4 hcr hnum hDB hn4
  go_enter Tryd.func32, Tryd.ntmps32
  go_wp2_with (go_at_call 38; refine (number_is _ _ l0 _ HM4.out _ (Kd.C_below HR0.out (by repeat (first | exact Below.refl _ _ | apply below_alloc | apply pw_below_drewN | apply below_drew1))) HBY.out h).mono ?_; rintro e w1 ⟨rfl, rfl⟩)
  have BK := Aside0.mk (show (w.alloc (.cells #[.string ⟨#[]⟩, .string ⟨#[]⟩] 24)).drew.heap[w.heap.size]? = some (.cells #[.string ⟨#[]⟩, .string ⟨#[]⟩] 24 (0, 0)) from blk_drew (blk_new w _))
  have HB := Aside0.mk (show Below w.heap.size w (w.alloc (.cells #[.string ⟨#[]⟩, .string ⟨#[]⟩] 24)).drew from (by repeat (first | exact Below.refl _ _ | apply below_alloc | apply pw_below_drewN | apply below_drew1)))
  refine start_ (n := 15) (S := fun w' => True) (ds := []) #[false, false, false, false, false, false, false, false, false, false, false, false, false, false, false] (by kernel_rfl) rfl rfl trivial (fun hHeld => ?_); refine with_tabW store_entry.tab5 store_entry.bits5 (fun HT_ HW_ => ?_)
  generalize (w.alloc (.cells #[.string ⟨#[]⟩, .string ⟨#[]⟩] 24)).drew = wd at BK HB hHeld ⊢
  refine pure_ (i := 0) (N := some 30) (v := ?_) (a' := ?_) #[true, false, false, false, false, false, false, false, false, false, false, false, false, false, false] rfl rfl (any_of HT_.out (by kernel_rfl)) (fun _ _ _ h => h) (Or.inl ⟨by rfl, ?_⟩) ?_ ?_
  rotate_left
  · intro w'
    go_simp
    with_reducible rfl
  rotate_left
  · simp only [Act.put, List.setIfInBounds_toArray, List.set_cons_zero, List.set_cons_succ, i64_w, i32_w]
    rfl
  refine pure_ (i := 1) (N := some 31) (v := ?_) (a' := ?_) #[true, true, false, false, false, false, false, false, false, false, false, false, false, false, false] rfl rfl (any_of HT_.out (by kernel_rfl)) (fun _ _ _ h => h) (Or.inl ⟨by rfl, ?_⟩) ?_ ?_
  rotate_left
  · intro w'
    go_simp
    with_reducible rfl
  rotate_left
  · simp only [Act.put, List.setIfInBounds_toArray, List.set_cons_zero, List.set_cons_succ, i64_w, i32_w]
    rfl
  refine pure_ (i := 2) (N := some 32) (v := ?_) (a' := ?_) #[true, true, true, false, false, false, false, false, false, false, false, false, false, false, false] rfl rfl (any_of HT_.out (by kernel_rfl)) (fun _ _ _ h => h) (Or.inl ⟨by rfl, ?_⟩) ?_ ?_
  rotate_left
  · intro w'
    go_simp
    with_reducible rfl
  rotate_left
  · simp only [Act.put, List.setIfInBounds_toArray, List.set_cons_zero, List.set_cons_succ, i64_w, i32_w]
    rfl
  refine pure_ (i := 5) (N := some 35) (v := ?_) (a' := ?_) #[true, true, true, false, false, true, false, false, false, false, false, false, false, false, false] rfl rfl (any_of HT_.out (by kernel_rfl)) (fun _ _ _ h => h) (Or.inl ⟨by rfl, ?_⟩) ?_ ?_
  rotate_left
  · intro w'
    go_simp
    with_reducible rfl
  rotate_left
  · simp only [Act.put, List.setIfInBounds_toArray, List.set_cons_zero, List.set_cons_succ, i64_w, i32_w]
    rfl
  refine pure_ (i := 6) (N := some 36) (v := ?_) (a' := ?_) #[true, true, true, false, false, true, true, false, false, false, false, false, false, false, false] rfl rfl (any_of HT_.out (by kernel_rfl)) (fun _ _ _ h => h) (Or.inl ⟨by rfl, ?_⟩) ?_ ?_
  rotate_left
  · intro w'
    go_simp
    with_reducible rfl
  rotate_left
  · simp only [Act.put, List.setIfInBounds_toArray, List.set_cons_zero, List.set_cons_succ, i64_w, i32_w]
    rfl
  refine pure_ (i := 7) (N := some 37) (v := ?_) (a' := ?_) #[true, true, true, false, false, true, true, true, false, false, false, false, false, false, false] rfl rfl (any_of HT_.out (by kernel_rfl)) (fun _ _ _ h => h) (Or.inl ⟨by rfl, ?_⟩) ?_ ?_
  rotate_left
  · intro w'
    go_simp
    with_reducible rfl
  rotate_left
  · simp only [Act.put, List.setIfInBounds_toArray, List.set_cons_zero, List.set_cons_succ, i64_w, i32_w]
    rfl
  refine one_ (i := 3) (N := some 33) #[true, true, true, true, false, true, true, true, false, false, false, false, false, false, false] rfl rfl (one_of HT_.out (by kernel_rfl)) (by decide) (fun K hK => ?_)
  refine goes_ Tryd.func17 (by kernel_rfl) rfl #[.slice A0 T.length c0] (by rfl) rfl rfl (by (try simp only [List.map_toArray, List.map_cons, List.map_nil]); first | done | rfl) ?_
  with_reducible refine (store_Sum.calls _ _ T (crc T) _ ?side1 ?side2 HSM.out).mono ?_
  (case side1 => exact Kd.C_below HCT.out HB.out)
  (case side2 => exact HTl.out)
  rintro e w5 ⟨rfl, hb⟩
  refine ⟨_, rfl, ?_⟩
  have n0_ := Aside0.mk (blk_below (g := w.heap.size) (o := .cells #[.string ⟨#[]⟩, .string ⟨#[]⟩] 24 (0, 0)) BK.out hb)
  have n1_ := Aside0.mk (below_step HB.out hb)
  clear BK HB
  have BK := n0_
  have HB := n1_
  clear n0_ n1_ hb
  refine hK.out _ _ trivial (fun hHeld => ?_)
  clear hK K
  refine norm_ (a' := ?_) ?_ ?_
  rotate_left
  · show Act.put _ (some 33) _ = _
    simp only [Act.put, List.setIfInBounds_toArray, List.set_cons_zero, List.set_cons_succ, i64_w, i32_w]
    rfl
  refine pure_ (i := 4) (N := some 34) (v := ?_) (a' := ?_) #[true, true, true, true, true, true, true, true, false, false, false, false, false, false, false] rfl rfl (any_of HT_.out (by kernel_rfl)) (fun _ _ _ h => h) (Or.inl ⟨by rfl, ?_⟩) ?_ ?_
  rotate_left
  · intro w'
    go_simp
    with_reducible rfl
  rotate_left
  · simp only [Act.put, List.setIfInBounds_toArray, List.set_cons_zero, List.set_cons_succ, i64_w, i32_w]
    rfl
  refine one_ (i := 8) (N := some 38) #[true, true, true, true, true, true, true, true, true, false, false, false, false, false, false] rfl rfl (one_of HT_.out (by kernel_rfl)) (by decide) (fun K hK => ?_)
  refine goes_ Tryd.func38 (by kernel_rfl) rfl #[.slice A2 D.length (c0 - (4 + m))] (by rfl) rfl rfl (by (try simp only [List.map_toArray, List.map_cons, List.map_nil]); first | done | rfl) ?_
  with_reducible refine (store_number.calls _ _ D (num4 D) _ ?side1 ?side2 HNM.out).mono ?_
  (case side1 => exact Kd.C_below HCD.out HB.out)
  (case side2 => exact HDl.out)
  rintro e w6 ⟨rfl, hb⟩
  refine ⟨_, rfl, ?_⟩
  have n0_ := Aside0.mk (blk_below (g := w.heap.size) (o := .cells #[.string ⟨#[]⟩, .string ⟨#[]⟩] 24 (0, 0)) BK.out hb)
  have n1_ := Aside0.mk (below_step HB.out hb)
  clear BK HB
  have BK := n0_
  have HB := n1_
  clear n0_ n1_ hb
  refine hK.out _ _ trivial (fun hHeld => ?_)
  clear hK K
  refine norm_ (a' := ?_) ?_ ?_
  rotate_left
  · show Act.put _ (some 38) _ = _
    simp only [Act.put, List.setIfInBounds_toArray, List.set_cons_zero, List.set_cons_succ, i64_w, i32_w]
    rfl
  refine pure_ (i := 9) (N := some 39) (v := ?_) (a' := ?_) #[true, true, true, true, true, true, true, true, true, true, false, false, false, false, false] rfl rfl (any_of HT_.out (by kernel_rfl)) (fun _ _ _ h => h) (Or.inl ⟨by rfl, ?_⟩) ?_ ?_
  rotate_left
  · intro w'
    go_simp
    with_reducible rfl
  rotate_left
  · simp only [Act.put, List.setIfInBounds_toArray, List.set_cons_zero, List.set_cons_succ, i64_w, i32_w]
    rfl
  refine pure_ (i := 10) (N := some 40) (v := ?_) (a' := ?_) #[true, true, true, true, true, true, true, true, true, true, true, false, false, false, false] rfl rfl (any_of HT_.out (by kernel_rfl)) (fun _ _ _ h => h) (Or.inl ⟨by rfl, ?_⟩) ?_ ?_
  rotate_left
  · intro w'
    go_simp
    with_reducible rfl
  rotate_left
  · simp only [Act.put, List.setIfInBounds_toArray, List.set_cons_zero, List.set_cons_succ, i64_w, i32_w]
    rfl
  refine pure_ (i := 11) (N := some 41) (v := undef) (a' := ?_) #[true, true, true, true, true, true, true, true, true, true, true, true, false, false, false] rfl rfl (any_of HT_.out (by kernel_rfl)) (fun _ _ _ h => h) (Or.inr ⟨by rfl, rfl⟩) ?_ ?_
  rotate_left
  · simp only [Act.put, List.setIfInBounds_toArray, List.set_cons_zero, List.set_cons_succ, i64_w, i32_w]
    rfl
  refine pure_ (i := 12) (N := some 42) (v := undef) (a' := ?_) #[true, true, true, true, true, true, true, true, true, true, true, true, true, false, false] rfl rfl (any_of HT_.out (by kernel_rfl)) (fun _ _ _ h => h) (Or.inr ⟨by rfl, rfl⟩) ?_ ?_
  rotate_left
  · simp only [Act.put, List.setIfInBounds_toArray, List.set_cons_zero, List.set_cons_succ, i64_w, i32_w]
    rfl
  refine pure_ (i := 13) (N := some 43) (v := undef) (a' := ?_) #[true, true, true, true, true, true, true, true, true, true, true, true, true, true, false] rfl rfl (any_of HT_.out (by kernel_rfl)) (fun _ _ _ h => h) (Or.inr ⟨by rfl, rfl⟩) ?_ ?_
  rotate_left
  · simp only [Act.put, List.setIfInBounds_toArray, List.set_cons_zero, List.set_cons_succ, i64_w, i32_w]
    rfl
  refine pure_ (i := 14) (N := some 44) (v := ?_) (a' := ?_) #[true, true, true, true, true, true, true, true, true, true, true, true, true, true, true] rfl rfl (any_of HT_.out (by kernel_rfl)) (fun _ _ _ h => h) (Or.inl ⟨by rfl, ?_⟩) ?_ ?_
  rotate_left
  · intro w'
    go_simp
    with_reducible rfl
  rotate_left
  · simp only [Act.put, List.setIfInBounds_toArray, List.set_cons_zero, List.set_cons_succ, i64_w, i32_w]
    rfl
  refine done_ (done_of HT_.out (by kernel_rfl)) ?_
  have hcz0 : (w6.alloc (.cells #[.int .i64 300] 63)).cell? ⟨w.heap.size, 0, none⟩ = some (.string ⟨#[]⟩) := (blk_cell (blk_alloc BK.out _) 0).trans rfl
  have hfz0 := blk_frozen (blk_alloc BK.out (.cells #[.int .i64 300] 63)) 0
  have hcz1 : (w6.alloc (.cells #[.int .i64 300] 63)).cell? ⟨w.heap.size, 1, none⟩ = some (.string ⟨#[]⟩) := (blk_cell (blk_alloc BK.out _) 1).trans rfl
  have hfz1 := blk_frozen (blk_alloc BK.out (.cells #[.int .i64 300] 63)) 1
  go_wp2
  exact bodyPost_ret (results_ctt rfl _ _ w.heap.size 24 #[.string ⟨#[]⟩, .string ⟨#[]⟩] (0, 0) _ rfl (by (with_reducible repeat (first | refine blk_drewN ?_ _ | refine blk_drew ?_ | refine blk_alloc ?_ _)); refine blk_put (cs := #[.string ⟨#[]⟩, .string ⟨#[]⟩]) ?_ 1 _ rfl; (with_reducible repeat (first | refine blk_drewN ?_ _ | refine blk_drew ?_ | refine blk_alloc ?_ _)); refine blk_put (cs := #[.string ⟨#[]⟩, .string ⟨#[]⟩]) ?_ 0 _ rfl; (with_reducible repeat (first | refine blk_drewN ?_ _ | refine blk_drew ?_ | refine blk_alloc ?_ _)); exact BK.out) Tryd.underlying24 rfl (by kernel_rfl)) rfl
    ⟨w6.heap.size, rfl, HB.out.size, by (refine blk_far ?_ ?_ _; (refine blk_far ?_ ?_ _; exact blk_new w6 _); all_goals (have := blk_lt BK.out; simp; omega)), by repeat (first | exact HB.out | apply below_alloc | apply pw_below_drewN | apply below_drew1 | refine below_set ?_ (Nat.le_refl _))⟩

set_option maxHeartbeats 8000000 in
set_option maxRecDepth 100000 in
theorem entry_none (A0 : Option Addr) (c0 : Nat) (l0 : List Int) (w : World) (hr0 : Kd.C (Kd.int .u8) w A0 l0.length l0) (hc : l0.length ≤ c0) (hb : bytesB l0 = true) (h : 4 ≤ l0.length) (hm : 8 + (num4 l0).toNat ≤ l0.length) (hs : crc (l0.take (4 + (num4 l0).toNat)) = num4 (l0.drop (4 + (num4 l0).toNat))) (h0 : (num4 l0).toNat = 0) :
    Calls Tryd.prog 32 #[.slice A0 l0.length c0] w (BadPost 300 w) := by
  have h1 : decide ((l0.length : Int) < 4) = false := decide_eq_false (by omega)
  have h2 : decide (l0.length < 4) = false := decide_eq_false (by omega)
  have hmx : l0.length ≤ 9223372036854775807 := hr0.2.1
  have HR0 := Aside0.mk hr0
  have HC := Aside0.mk hc
  obtain ⟨r0, r1⟩ := num4_range hb h
  obtain ⟨m, hm4⟩ : ∃ m : Nat, num4 l0 = m := ⟨(num4 l0).toNat, by omega⟩
  have hn4 : store_number.f l0 = some (m : Int) := by unfold store_number.f; rw [if_pos ⟨hb, h⟩, hm4]
  have HN4 := Aside0.mk hn4
  rw [hm4, Int.toNat_natCast] at hm
  rw [hm4, Int.toNat_natCast] at hs
  have h3 : ¬ (l0.length : Int) - 8 < (m : Int) := by omega
  have hpm := cut_mid (A0 := A0) (c0 := c0) (l0 := l0) 4 (4 + m) (by omega) (by omega) hc
  have hpt := cut_take (A0 := A0) (c0 := c0) (l0 := l0) (4 + m) (by omega) hc
  have hpd := cut_drop (A0 := A0) (c0 := c0) (l0 := l0) (4 + m) (by omega) hc
  obtain ⟨A1, hq1, hC1, hl1⟩ := hpm
  obtain ⟨A2, hq2, hC2, hl2⟩ := hpd
  obtain ⟨T, hT⟩ : ∃ T, T = l0.take (4 + m) := ⟨_, rfl⟩
  obtain ⟨D, hD⟩ : ∃ D, D = l0.drop (4 + m) := ⟨_, rfl⟩
  obtain ⟨Q, hQ⟩ : ∃ Q, Q = (l0.take (4 + m)).drop 4 := ⟨_, rfl⟩
  rw [← hT, ← hD] at hs
  rw [← hT] at hpt
  rw [← hD] at hq2 hC2 hl2
  rw [← hQ] at hq1 hC1 hl1
  have hTl : T.length = 4 + m := by rw [hT, List.length_take]; omega
  have hDl : D.length = l0.length - (4 + m) := by rw [hD, List.length_drop]
  have hQl : Q.length = m := by rw [hQ, List.length_drop, List.length_take]; omega
  have hQB : bytesB Q = true := by rw [hQ]; exact bytesB_drop (bytesB_take hb _) _
  have hD4 : 4 ≤ D.length := by omega
  have hDB : bytesB D = true := by rw [hD]; exact bytesB_drop hb _
  have hsum : store_Sum.f T = some (crc T) := by unfold store_Sum.f; rw [if_pos (by rw [hT]; exact bytesB_take hb _)]
  have HSM := Aside0.mk hsum
  have hnum : store_number.f D = some (num4 D) := by unfold store_number.f; rw [if_pos ⟨hDB, hD4⟩]
  have HNM := Aside0.mk hnum
  have HCT := Aside0.mk (show Kd.C (Kd.int .u8) w A0 T.length T by rw [hT]; exact Kd.C_take hr0 (by omega))
  have HCD := Aside0.mk (hC2 w hr0)
  have HCQ := Aside0.mk (hC1 w hr0)
  have HTl := Aside0.mk (show T.length ≤ c0 by omega)
  have HDl := Aside0.mk hl2
  have HQl := Aside0.mk hl1
  have hcr := crc_range T
  have hwc : IntKind.i64.wrap (crc T) = crc T := by rw [IntKind.wrap_i64]; omega
  have hwc2 : wrap64 (crc T) = crc T := by unfold wrap64; omega
  have e4 : ((4 + m : Nat) : Int) = 4 + (m : Int) := by omega
  rw [e4, show ((4 : Nat) : Int) = 4 from rfl] at hq1
  rw [e4] at hq2
  have hpt' : ∀ W : World, (Instr.slice 22 (.slice A0 l0.length c0) none (some (.int .i64 (4 + (m : Int)))) none).run Tryd.prog W = .ok (.slice A0 T.length c0) W := by rw [← e4]; exact hpt
  have hm8 : 4 + (m : Int) ≤ (l0.length : Int) := by omega
  rw [hQl] at hq1
  rw [hm4, Int.toNat_natCast] at h0
  have hz1 : ((m : Int) == 0) = true := by simp; omega
  have hz2 : (m == 0) = true := by simp; omega
  have hne1 : (crc T == num4 D) = true := beq_iff_eq.mpr hs
  have hne2 : (crc T != num4 D) = false := bne_eq_false_iff_eq.mpr hs
  clear hs hQ hQl hQB HCQ HQl h0
  have HM4 := Aside0.mk hm4
  have HBY := Aside0.mk hb
  clear hr0 hb hc hm hT hD hC1 hC2 hl1 hl2 hTl hDl hsum hpt e4 r0 r1 hm4 hcr hnum hDB hn4
  go_enter Tryd.func32, Tryd.ntmps32
  go_wp2_with (go_at_call 38; refine (number_is _ _ l0 _ HM4.out _ (Kd.C_below HR0.out (by repeat (first | exact Below.refl _ _ | apply below_alloc | apply pw_below_drewN | apply below_drew1))) HBY.out h).mono ?_; rintro e w1 ⟨rfl, rfl⟩)
  have BK := Aside0.mk (show (w.alloc (.cells #[.string ⟨#[]⟩, .string ⟨#[]⟩] 24)).drew.heap[w.heap.size]? = some (.cells #[.string ⟨#[]⟩, .string ⟨#[]⟩] 24 (0, 0)) from blk_drew (blk_new w _))
  have HB := Aside0.mk (show Below w.heap.size w (w.alloc (.cells #[.string ⟨#[]⟩, .string ⟨#[]⟩] 24)).drew from (by repeat (first | exact Below.refl _ _ | apply below_alloc | apply pw_below_drewN | apply below_drew1)))
  refine start_ (n := 15) (S := fun w' => True) (ds := []) #[false, false, false, false, false, false, false, false, false, false, false, false, false, false, false] (by kernel_rfl) rfl rfl trivial (fun hHeld => ?_); refine with_tabW store_entry.tab5 store_entry.bits5 (fun HT_ HW_ => ?_)
  generalize (w.alloc (.cells #[.string ⟨#[]⟩, .string ⟨#[]⟩] 24)).drew = wd at BK HB hHeld ⊢
  refine pure_ (i := 0) (N := some 30) (v := ?_) (a' := ?_) #[true, false, false, false, false, false, false, false, false, false, false, false, false, false, false] rfl rfl (any_of HT_.out (by kernel_rfl)) (fun _ _ _ h => h) (Or.inl ⟨by rfl, ?_⟩) ?_ ?_
  rotate_left
  · intro w'
    go_simp
    with_reducible rfl
  rotate_left
  · simp only [Act.put, List.setIfInBounds_toArray, List.set_cons_zero, List.set_cons_succ, i64_w, i32_w]
    rfl
  refine pure_ (i := 1) (N := some 31) (v := ?_) (a' := ?_) #[true, true, false, false, false, false, false, false, false, false, false, false, false, false, false] rfl rfl (any_of HT_.out (by kernel_rfl)) (fun _ _ _ h => h) (Or.inl ⟨by rfl, ?_⟩) ?_ ?_
  rotate_left
  · intro w'
    go_simp
    with_reducible rfl
  rotate_left
  · simp only [Act.put, List.setIfInBounds_toArray, List.set_cons_zero, List.set_cons_succ, i64_w, i32_w]
    rfl
  refine pure_ (i := 2) (N := some 32) (v := ?_) (a' := ?_) #[true, true, true, false, false, false, false, false, false, false, false, false, false, false, false] rfl rfl (any_of HT_.out (by kernel_rfl)) (fun _ _ _ h => h) (Or.inl ⟨by rfl, ?_⟩) ?_ ?_
  rotate_left
  · intro w'
    go_simp
    with_reducible rfl
  rotate_left
  · simp only [Act.put, List.setIfInBounds_toArray, List.set_cons_zero, List.set_cons_succ, i64_w, i32_w]
    rfl
  refine pure_ (i := 5) (N := some 35) (v := ?_) (a' := ?_) #[true, true, true, false, false, true, false, false, false, false, false, false, false, false, false] rfl rfl (any_of HT_.out (by kernel_rfl)) (fun _ _ _ h => h) (Or.inl ⟨by rfl, ?_⟩) ?_ ?_
  rotate_left
  · intro w'
    go_simp
    with_reducible rfl
  rotate_left
  · simp only [Act.put, List.setIfInBounds_toArray, List.set_cons_zero, List.set_cons_succ, i64_w, i32_w]
    rfl
  refine pure_ (i := 6) (N := some 36) (v := ?_) (a' := ?_) #[true, true, true, false, false, true, true, false, false, false, false, false, false, false, false] rfl rfl (any_of HT_.out (by kernel_rfl)) (fun _ _ _ h => h) (Or.inl ⟨by rfl, ?_⟩) ?_ ?_
  rotate_left
  · intro w'
    go_simp
    with_reducible rfl
  rotate_left
  · simp only [Act.put, List.setIfInBounds_toArray, List.set_cons_zero, List.set_cons_succ, i64_w, i32_w]
    rfl
  refine pure_ (i := 7) (N := some 37) (v := ?_) (a' := ?_) #[true, true, true, false, false, true, true, true, false, false, false, false, false, false, false] rfl rfl (any_of HT_.out (by kernel_rfl)) (fun _ _ _ h => h) (Or.inl ⟨by rfl, ?_⟩) ?_ ?_
  rotate_left
  · intro w'
    go_simp
    with_reducible rfl
  rotate_left
  · simp only [Act.put, List.setIfInBounds_toArray, List.set_cons_zero, List.set_cons_succ, i64_w, i32_w]
    rfl
  refine one_ (i := 3) (N := some 33) #[true, true, true, true, false, true, true, true, false, false, false, false, false, false, false] rfl rfl (one_of HT_.out (by kernel_rfl)) (by decide) (fun K hK => ?_)
  refine goes_ Tryd.func17 (by kernel_rfl) rfl #[.slice A0 T.length c0] (by rfl) rfl rfl (by (try simp only [List.map_toArray, List.map_cons, List.map_nil]); first | done | rfl) ?_
  with_reducible refine (store_Sum.calls _ _ T (crc T) _ ?side1 ?side2 HSM.out).mono ?_
  (case side1 => exact Kd.C_below HCT.out HB.out)
  (case side2 => exact HTl.out)
  rintro e w5 ⟨rfl, hb⟩
  refine ⟨_, rfl, ?_⟩
  have n0_ := Aside0.mk (blk_below (g := w.heap.size) (o := .cells #[.string ⟨#[]⟩, .string ⟨#[]⟩] 24 (0, 0)) BK.out hb)
  have n1_ := Aside0.mk (below_step HB.out hb)
  clear BK HB
  have BK := n0_
  have HB := n1_
  clear n0_ n1_ hb
  refine hK.out _ _ trivial (fun hHeld => ?_)
  clear hK K
  refine norm_ (a' := ?_) ?_ ?_
  rotate_left
  · show Act.put _ (some 33) _ = _
    simp only [Act.put, List.setIfInBounds_toArray, List.set_cons_zero, List.set_cons_succ, i64_w, i32_w]
    rfl
  refine pure_ (i := 4) (N := some 34) (v := ?_) (a' := ?_) #[true, true, true, true, true, true, true, true, false, false, false, false, false, false, false] rfl rfl (any_of HT_.out (by kernel_rfl)) (fun _ _ _ h => h) (Or.inl ⟨by rfl, ?_⟩) ?_ ?_
  rotate_left
  · intro w'
    go_simp
    with_reducible rfl
  rotate_left
  · simp only [Act.put, List.setIfInBounds_toArray, List.set_cons_zero, List.set_cons_succ, i64_w, i32_w]
    rfl
  refine one_ (i := 8) (N := some 38) #[true, true, true, true, true, true, true, true, true, false, false, false, false, false, false] rfl rfl (one_of HT_.out (by kernel_rfl)) (by decide) (fun K hK => ?_)
  refine goes_ Tryd.func38 (by kernel_rfl) rfl #[.slice A2 D.length (c0 - (4 + m))] (by rfl) rfl rfl (by (try simp only [List.map_toArray, List.map_cons, List.map_nil]); first | done | rfl) ?_
  with_reducible refine (store_number.calls _ _ D (num4 D) _ ?side1 ?side2 HNM.out).mono ?_
  (case side1 => exact Kd.C_below HCD.out HB.out)
  (case side2 => exact HDl.out)
  rintro e w6 ⟨rfl, hb⟩
  refine ⟨_, rfl, ?_⟩
  have n0_ := Aside0.mk (blk_below (g := w.heap.size) (o := .cells #[.string ⟨#[]⟩, .string ⟨#[]⟩] 24 (0, 0)) BK.out hb)
  have n1_ := Aside0.mk (below_step HB.out hb)
  clear BK HB
  have BK := n0_
  have HB := n1_
  clear n0_ n1_ hb
  refine hK.out _ _ trivial (fun hHeld => ?_)
  clear hK K
  refine norm_ (a' := ?_) ?_ ?_
  rotate_left
  · show Act.put _ (some 38) _ = _
    simp only [Act.put, List.setIfInBounds_toArray, List.set_cons_zero, List.set_cons_succ, i64_w, i32_w]
    rfl
  refine pure_ (i := 9) (N := some 39) (v := ?_) (a' := ?_) #[true, true, true, true, true, true, true, true, true, true, false, false, false, false, false] rfl rfl (any_of HT_.out (by kernel_rfl)) (fun _ _ _ h => h) (Or.inl ⟨by rfl, ?_⟩) ?_ ?_
  rotate_left
  · intro w'
    go_simp
    with_reducible rfl
  rotate_left
  · simp only [Act.put, List.setIfInBounds_toArray, List.set_cons_zero, List.set_cons_succ, i64_w, i32_w]
    rfl
  refine pure_ (i := 10) (N := some 40) (v := ?_) (a' := ?_) #[true, true, true, true, true, true, true, true, true, true, true, false, false, false, false] rfl rfl (any_of HT_.out (by kernel_rfl)) (fun _ _ _ h => h) (Or.inl ⟨by rfl, ?_⟩) ?_ ?_
  rotate_left
  · intro w'
    go_simp
    with_reducible rfl
  rotate_left
  · simp only [Act.put, List.setIfInBounds_toArray, List.set_cons_zero, List.set_cons_succ, i64_w, i32_w]
    rfl
  refine pure_ (i := 11) (N := some 41) (v := ?_) (a' := ?_) #[true, true, true, true, true, true, true, true, true, true, true, true, false, false, false] rfl rfl (any_of HT_.out (by kernel_rfl)) (fun _ _ _ h => h) (Or.inl ⟨by rfl, ?_⟩) ?_ ?_
  rotate_left
  · intro w'
    go_simp
    with_reducible rfl
  rotate_left
  · simp only [Act.put, List.setIfInBounds_toArray, List.set_cons_zero, List.set_cons_succ, i64_w, i32_w]
    rfl
  refine pure_ (i := 12) (N := some 42) (v := ?_) (a' := ?_) #[true, true, true, true, true, true, true, true, true, true, true, true, true, false, false] rfl rfl (any_of HT_.out (by kernel_rfl)) (fun _ _ _ h => h) (Or.inl ⟨by rfl, ?_⟩) ?_ ?_
  rotate_left
  · intro w'
    go_simp
    with_reducible rfl
  rotate_left
  · simp only [Act.put, List.setIfInBounds_toArray, List.set_cons_zero, List.set_cons_succ, i64_w, i32_w]
    rfl
  refine pure_ (i := 13) (N := some 43) (v := ?_) (a' := ?_) #[true, true, true, true, true, true, true, true, true, true, true, true, true, true, false] rfl rfl (any_of HT_.out (by kernel_rfl)) (fun _ _ _ h => h) (Or.inl ⟨by rfl, ?_⟩) ?_ ?_
  rotate_left
  · intro w'
    go_simp
    with_reducible rfl
  rotate_left
  · simp only [Act.put, List.setIfInBounds_toArray, List.set_cons_zero, List.set_cons_succ, i64_w, i32_w]
    rfl
  refine pure_ (i := 14) (N := some 44) (v := ?_) (a' := ?_) #[true, true, true, true, true, true, true, true, true, true, true, true, true, true, true] rfl rfl (any_of HT_.out (by kernel_rfl)) (fun _ _ _ h => h) (Or.inl ⟨by rfl, ?_⟩) ?_ ?_
  rotate_left
  · intro w'
    go_simp
    with_reducible rfl
  rotate_left
  · simp only [Act.put, List.setIfInBounds_toArray, List.set_cons_zero, List.set_cons_succ, i64_w, i32_w]
    rfl
  refine done_ (done_of HT_.out (by kernel_rfl)) ?_
  have hcz0 : (w6.alloc (.cells #[.int .i64 300] 63)).cell? ⟨w.heap.size, 0, none⟩ = some (.string ⟨#[]⟩) := (blk_cell (blk_alloc BK.out _) 0).trans rfl
  have hfz0 := blk_frozen (blk_alloc BK.out (.cells #[.int .i64 300] 63)) 0
  have hcz1 : (w6.alloc (.cells #[.int .i64 300] 63)).cell? ⟨w.heap.size, 1, none⟩ = some (.string ⟨#[]⟩) := (blk_cell (blk_alloc BK.out _) 1).trans rfl
  have hfz1 := blk_frozen (blk_alloc BK.out (.cells #[.int .i64 300] 63)) 1
  go_wp2
  exact bodyPost_ret (results_ctt rfl _ _ w.heap.size 24 #[.string ⟨#[]⟩, .string ⟨#[]⟩] (0, 0) _ rfl (by (with_reducible repeat (first | refine blk_drewN ?_ _ | refine blk_drew ?_ | refine blk_alloc ?_ _)); refine blk_put (cs := #[.string ⟨#[]⟩, .string ⟨#[]⟩]) ?_ 1 _ rfl; (with_reducible repeat (first | refine blk_drewN ?_ _ | refine blk_drew ?_ | refine blk_alloc ?_ _)); refine blk_put (cs := #[.string ⟨#[]⟩, .string ⟨#[]⟩]) ?_ 0 _ rfl; (with_reducible repeat (first | refine blk_drewN ?_ _ | refine blk_drew ?_ | refine blk_alloc ?_ _)); exact BK.out) Tryd.underlying24 rfl (by kernel_rfl)) rfl
    ⟨w6.heap.size, rfl, HB.out.size, by (refine blk_far ?_ ?_ _; (refine blk_far ?_ ?_ _; exact blk_new w6 _); all_goals (have := blk_lt BK.out; simp; omega)), by repeat (first | exact HB.out | apply below_alloc | apply pw_below_drewN | apply below_drew1 | refine below_set ?_ (Nat.le_refl _))⟩

set_option maxHeartbeats 8000000 in
set_option maxRecDepth 100000 in
theorem entry_neg (A0 : Option Addr) (c0 : Nat) (l0 : List Int) (w : World) (hr0 : Kd.C (Kd.int .u8) w A0 l0.length l0) (hc : l0.length ≤ c0) (hb : bytesB l0 = true) (h : 4 ≤ l0.length) (hm : 8 + (num4 l0).toNat ≤ l0.length) (hs : crc (l0.take (4 + (num4 l0).toNat)) = num4 (l0.drop (4 + (num4 l0).toNat))) (h0 : 1 ≤ (num4 l0).toNat) (hk : (num4 l0).toNat < 1 + (rd (payOf l0 (num4 l0).toNat) 0).toNat) :
    Calls Tryd.prog 32 #[.slice A0 l0.length c0] w (BadPost 300 w) := by
  have h1 : decide ((l0.length : Int) < 4) = false := decide_eq_false (by omega)
  have h2 : decide (l0.length < 4) = false := decide_eq_false (by omega)
  have hmx : l0.length ≤ 9223372036854775807 := hr0.2.1
  have HR0 := Aside0.mk hr0
  have HC := Aside0.mk hc
  obtain ⟨r0, r1⟩ := num4_range hb h
  obtain ⟨m, hm4⟩ : ∃ m : Nat, num4 l0 = m := ⟨(num4 l0).toNat, by omega⟩
  have hn4 : store_number.f l0 = some (m : Int) := by unfold store_number.f; rw [if_pos ⟨hb, h⟩, hm4]
  have HN4 := Aside0.mk hn4
  rw [hm4, Int.toNat_natCast] at hm
  rw [hm4, Int.toNat_natCast] at hs
  have h3 : ¬ (l0.length : Int) - 8 < (m : Int) := by omega
  have hpm := cut_mid (A0 := A0) (c0 := c0) (l0 := l0) 4 (4 + m) (by omega) (by omega) hc
  have hpt := cut_take (A0 := A0) (c0 := c0) (l0 := l0) (4 + m) (by omega) hc
  have hpd := cut_drop (A0 := A0) (c0 := c0) (l0 := l0) (4 + m) (by omega) hc
  obtain ⟨A1, hq1, hC1, hl1⟩ := hpm
  obtain ⟨A2, hq2, hC2, hl2⟩ := hpd
  obtain ⟨T, hT⟩ : ∃ T, T = l0.take (4 + m) := ⟨_, rfl⟩
  obtain ⟨D, hD⟩ : ∃ D, D = l0.drop (4 + m) := ⟨_, rfl⟩
  obtain ⟨Q, hQ⟩ : ∃ Q, Q = (l0.take (4 + m)).drop 4 := ⟨_, rfl⟩
  rw [← hT, ← hD] at hs
  rw [← hT] at hpt
  rw [← hD] at hq2 hC2 hl2
  rw [← hQ] at hq1 hC1 hl1
  have hTl : T.length = 4 + m := by rw [hT, List.length_take]; omega
  have hDl : D.length = l0.length - (4 + m) := by rw [hD, List.length_drop]
  have hQl : Q.length = m := by rw [hQ, List.length_drop, List.length_take]; omega
  have hQB : bytesB Q = true := by rw [hQ]; exact bytesB_drop (bytesB_take hb _) _
  have hD4 : 4 ≤ D.length := by omega
  have hDB : bytesB D = true := by rw [hD]; exact bytesB_drop hb _
  have hsum : store_Sum.f T = some (crc T) := by unfold store_Sum.f; rw [if_pos (by rw [hT]; exact bytesB_take hb _)]
  have HSM := Aside0.mk hsum
  have hnum : store_number.f D = some (num4 D) := by unfold store_number.f; rw [if_pos ⟨hDB, hD4⟩]
  have HNM := Aside0.mk hnum
  have HCT := Aside0.mk (show Kd.C (Kd.int .u8) w A0 T.length T by rw [hT]; exact Kd.C_take hr0 (by omega))
  have HCD := Aside0.mk (hC2 w hr0)
  have HCQ := Aside0.mk (hC1 w hr0)
  have HTl := Aside0.mk (show T.length ≤ c0 by omega)
  have HDl := Aside0.mk hl2
  have HQl := Aside0.mk hl1
  have hcr := crc_range T
  have hwc : IntKind.i64.wrap (crc T) = crc T := by rw [IntKind.wrap_i64]; omega
  have hwc2 : wrap64 (crc T) = crc T := by unfold wrap64; omega
  have e4 : ((4 + m : Nat) : Int) = 4 + (m : Int) := by omega
  rw [e4, show ((4 : Nat) : Int) = 4 from rfl] at hq1
  rw [e4] at hq2
  have hpt' : ∀ W : World, (Instr.slice 22 (.slice A0 l0.length c0) none (some (.int .i64 (4 + (m : Int)))) none).run Tryd.prog W = .ok (.slice A0 T.length c0) W := by rw [← e4]; exact hpt
  have hm8 : 4 + (m : Int) ≤ (l0.length : Int) := by omega
  rw [hQl] at hq1
  rw [hm4, Int.toNat_natCast] at h0
  obtain ⟨n, hn8, hrd, hq0_⟩ := bytesB_get hQB 0 (by omega)
  clear hq0_
  have hrd' : rd Q 0 = (n : Int) := hrd
  have hz1 : ((m : Int) == 0) = false := by simp; omega
  have hz2 : (m == 0) = false := by simp; omega
  have hi1 : (0 : Int) < (m : Int) := by omega
  have hi2 : 0 < m := by omega
  have hne1 : (crc T == num4 D) = true := beq_iff_eq.mpr hs
  have hne2 : (crc T != num4 D) = false := bne_eq_false_iff_eq.mpr hs
  obtain ⟨ad, e1, hx0⟩ := Kd.at_int HCQ.out 0 (by omega) (by omega)
  subst e1
  rw [hrd', show ((0 : Int)).toNat = 0 from rfl, Addr.add_zero'] at hx0
  have HX0 := Aside0.mk hx0
  have HQL := Aside0.mk hQl
  rw [hm4, Int.toNat_natCast, show payOf l0 m = Q from hQ.symm, hrd', Int.toNat_natCast] at hk
  have hd1 : (m : Int) - 1 - (n : Int) < 0 := by omega
  clear hs hQ hQl hQB HCQ HQl h0 hk hx0 hrd hrd'
  have HM4 := Aside0.mk hm4
  have HBY := Aside0.mk hb
  clear hr0 hb hc hm hT hD hC1 hC2 hl1 hl2 hTl hDl hsum hpt e4 r0 r1 hm4 hcr hnum hDB hn4
  go_enter Tryd.func32, Tryd.ntmps32
  go_wp2_with (go_at_call 38; refine (number_is _ _ l0 _ HM4.out _ (Kd.C_below HR0.out (by repeat (first | exact Below.refl _ _ | apply below_alloc | apply pw_below_drewN | apply below_drew1))) HBY.out h).mono ?_; rintro e w1 ⟨rfl, rfl⟩)
  have BK := Aside0.mk (show (w.alloc (.cells #[.string ⟨#[]⟩, .string ⟨#[]⟩] 24)).drew.heap[w.heap.size]? = some (.cells #[.string ⟨#[]⟩, .string ⟨#[]⟩] 24 (0, 0)) from blk_drew (blk_new w _))
  have HB := Aside0.mk (show Below w.heap.size w (w.alloc (.cells #[.string ⟨#[]⟩, .string ⟨#[]⟩] 24)).drew from (by repeat (first | exact Below.refl _ _ | apply below_alloc | apply pw_below_drewN | apply below_drew1)))
  refine start_ (n := 15) (S := fun w' => True) (ds := []) #[false, false, false, false, false, false, false, false, false, false, false, false, false, false, false] (by kernel_rfl) rfl rfl trivial (fun hHeld => ?_); refine with_tabW store_entry.tab5 store_entry.bits5 (fun HT_ HW_ => ?_)
  generalize (w.alloc (.cells #[.string ⟨#[]⟩, .string ⟨#[]⟩] 24)).drew = wd at BK HB hHeld ⊢
  refine pure_ (i := 0) (N := some 30) (v := ?_) (a' := ?_) #[true, false, false, false, false, false, false, false, false, false, false, false, false, false, false] rfl rfl (any_of HT_.out (by kernel_rfl)) (fun _ _ _ h => h) (Or.inl ⟨by rfl, ?_⟩) ?_ ?_
  rotate_left
  · intro w'
    go_simp
    with_reducible rfl
  rotate_left
  · simp only [Act.put, List.setIfInBounds_toArray, List.set_cons_zero, List.set_cons_succ, i64_w, i32_w]
    rfl
  refine pure_ (i := 1) (N := some 31) (v := ?_) (a' := ?_) #[true, true, false, false, false, false, false, false, false, false, false, false, false, false, false] rfl rfl (any_of HT_.out (by kernel_rfl)) (fun _ _ _ h => h) (Or.inl ⟨by rfl, ?_⟩) ?_ ?_
  rotate_left
  · intro w'
    go_simp
    with_reducible rfl
  rotate_left
  · simp only [Act.put, List.setIfInBounds_toArray, List.set_cons_zero, List.set_cons_succ, i64_w, i32_w]
    rfl
  refine pure_ (i := 2) (N := some 32) (v := ?_) (a' := ?_) #[true, true, true, false, false, false, false, false, false, false, false, false, false, false, false] rfl rfl (any_of HT_.out (by kernel_rfl)) (fun _ _ _ h => h) (Or.inl ⟨by rfl, ?_⟩) ?_ ?_
  rotate_left
  · intro w'
    go_simp
    with_reducible rfl
  rotate_left
  · simp only [Act.put, List.setIfInBounds_toArray, List.set_cons_zero, List.set_cons_succ, i64_w, i32_w]
    rfl
  refine pure_ (i := 5) (N := some 35) (v := ?_) (a' := ?_) #[true, true, true, false, false, true, false, false, false, false, false, false, false, false, false] rfl rfl (any_of HT_.out (by kernel_rfl)) (fun _ _ _ h => h) (Or.inl ⟨by rfl, ?_⟩) ?_ ?_
  rotate_left
  · intro w'
    go_simp
    with_reducible rfl
  rotate_left
  · simp only [Act.put, List.setIfInBounds_toArray, List.set_cons_zero, List.set_cons_succ, i64_w, i32_w]
    rfl
  refine pure_ (i := 6) (N := some 36) (v := ?_) (a' := ?_) #[true, true, true, false, false, true, true, false, false, false, false, false, false, false, false] rfl rfl (any_of HT_.out (by kernel_rfl)) (fun _ _ _ h => h) (Or.inl ⟨by rfl, ?_⟩) ?_ ?_
  rotate_left
  · intro w'
    go_simp
    with_reducible rfl
  rotate_left
  · simp only [Act.put, List.setIfInBounds_toArray, List.set_cons_zero, List.set_cons_succ, i64_w, i32_w]
    rfl
  refine pure_ (i := 7) (N := some 37) (v := ?_) (a' := ?_) #[true, true, true, false, false, true, true, true, false, false, false, false, false, false, false] rfl rfl (any_of HT_.out (by kernel_rfl)) (fun _ _ _ h => h) (Or.inl ⟨by rfl, ?_⟩) ?_ ?_
  rotate_left
  · intro w'
    go_simp
    with_reducible rfl
  rotate_left
  · simp only [Act.put, List.setIfInBounds_toArray, List.set_cons_zero, List.set_cons_succ, i64_w, i32_w]
    rfl
  refine one_ (i := 3) (N := some 33) #[true, true, true, true, false, true, true, true, false, false, false, false, false, false, false] rfl rfl (one_of HT_.out (by kernel_rfl)) (by decide) (fun K hK => ?_)
  refine goes_ Tryd.func17 (by kernel_rfl) rfl #[.slice A0 T.length c0] (by rfl) rfl rfl (by (try simp only [List.map_toArray, List.map_cons, List.map_nil]); first | done | rfl) ?_
  with_reducible refine (store_Sum.calls _ _ T (crc T) _ ?side1 ?side2 HSM.out).mono ?_
  (case side1 => exact Kd.C_below HCT.out HB.out)
  (case side2 => exact HTl.out)
  rintro e w5 ⟨rfl, hb⟩
  refine ⟨_, rfl, ?_⟩
  have n0_ := Aside0.mk (blk_below (g := w.heap.size) (o := .cells #[.string ⟨#[]⟩, .string ⟨#[]⟩] 24 (0, 0)) BK.out hb)
  have n1_ := Aside0.mk (below_step HB.out hb)
  clear BK HB
  have BK := n0_
  have HB := n1_
  clear n0_ n1_ hb
  refine hK.out _ _ trivial (fun hHeld => ?_)
  clear hK K
  refine norm_ (a' := ?_) ?_ ?_
  rotate_left
  · show Act.put _ (some 33) _ = _
    simp only [Act.put, List.setIfInBounds_toArray, List.set_cons_zero, List.set_cons_succ, i64_w, i32_w]
    rfl
  refine pure_ (i := 4) (N := some 34) (v := ?_) (a' := ?_) #[true, true, true, true, true, true, true, true, false, false, false, false, false, false, false] rfl rfl (any_of HT_.out (by kernel_rfl)) (fun _ _ _ h => h) (Or.inl ⟨by rfl, ?_⟩) ?_ ?_
  rotate_left
  · intro w'
    go_simp
    with_reducible rfl
  rotate_left
  · simp only [Act.put, List.setIfInBounds_toArray, List.set_cons_zero, List.set_cons_succ, i64_w, i32_w]
    rfl
  refine one_ (i := 8) (N := some 38) #[true, true, true, true, true, true, true, true, true, false, false, false, false, false, false] rfl rfl (one_of HT_.out (by kernel_rfl)) (by decide) (fun K hK => ?_)
  refine goes_ Tryd.func38 (by kernel_rfl) rfl #[.slice A2 D.length (c0 - (4 + m))] (by rfl) rfl rfl (by (try simp only [List.map_toArray, List.map_cons, List.map_nil]); first | done | rfl) ?_
  with_reducible refine (store_number.calls _ _ D (num4 D) _ ?side1 ?side2 HNM.out).mono ?_
  (case side1 => exact Kd.C_below HCD.out HB.out)
  (case side2 => exact HDl.out)
  rintro e w6 ⟨rfl, hb⟩
  refine ⟨_, rfl, ?_⟩
  have n0_ := Aside0.mk (blk_below (g := w.heap.size) (o := .cells #[.string ⟨#[]⟩, .string ⟨#[]⟩] 24 (0, 0)) BK.out hb)
  have n1_ := Aside0.mk (below_step HB.out hb)
  clear BK HB
  have BK := n0_
  have HB := n1_
  clear n0_ n1_ hb
  refine hK.out _ _ trivial (fun hHeld => ?_)
  clear hK K
  refine norm_ (a' := ?_) ?_ ?_
  rotate_left
  · show Act.put _ (some 38) _ = _
    simp only [Act.put, List.setIfInBounds_toArray, List.set_cons_zero, List.set_cons_succ, i64_w, i32_w]
    rfl
  refine pure_ (i := 9) (N := some 39) (v := ?_) (a' := ?_) #[true, true, true, true, true, true, true, true, true, true, false, false, false, false, false] rfl rfl (any_of HT_.out (by kernel_rfl)) (fun _ _ _ h => h) (Or.inl ⟨by rfl, ?_⟩) ?_ ?_
  rotate_left
  · intro w'
    go_simp
    with_reducible rfl
  rotate_left
  · simp only [Act.put, List.setIfInBounds_toArray, List.set_cons_zero, List.set_cons_succ, i64_w, i32_w]
    rfl
  refine pure_ (i := 10) (N := some 40) (v := ?_) (a' := ?_) #[true, true, true, true, true, true, true, true, true, true, true, false, false, false, false] rfl rfl (any_of HT_.out (by kernel_rfl)) (fun _ _ _ h => h) (Or.inl ⟨by rfl, ?_⟩) ?_ ?_
  rotate_left
  · intro w'
    go_simp
    with_reducible rfl
  rotate_left
  · simp only [Act.put, List.setIfInBounds_toArray, List.set_cons_zero, List.set_cons_succ, i64_w, i32_w]
    rfl
  refine pure_ (i := 11) (N := some 41) (v := ?_) (a' := ?_) #[true, true, true, true, true, true, true, true, true, true, true, true, false, false, false] rfl rfl (any_of HT_.out (by kernel_rfl)) (fun _ _ _ h => h) (Or.inl ⟨by rfl, ?_⟩) ?_ ?_
  rotate_left
  · intro w'
    go_simp
    with_reducible rfl
  rotate_left
  · simp only [Act.put, List.setIfInBounds_toArray, List.set_cons_zero, List.set_cons_succ, i64_w, i32_w]
    rfl
  refine pure_ (i := 12) (N := some 42) (v := ?_) (a' := ?_) #[true, true, true, true, true, true, true, true, true, true, true, true, true, false, false] rfl rfl (any_of HT_.out (by kernel_rfl)) (fun _ _ _ h => h) (Or.inl ⟨by rfl, ?_⟩) ?_ ?_
  rotate_left
  · intro w'
    go_simp
    with_reducible rfl
  rotate_left
  · simp only [Act.put, List.setIfInBounds_toArray, List.set_cons_zero, List.set_cons_succ, i64_w, i32_w]
    rfl
  refine pure_ (i := 13) (N := some 43) (v := ?_) (a' := ?_) #[true, true, true, true, true, true, true, true, true, true, true, true, true, true, false] rfl rfl (any_of HT_.out (by kernel_rfl)) (fun _ _ _ h => h) (Or.inl ⟨by rfl, ?_⟩) ?_ ?_
  rotate_left
  · intro w'
    go_simp
    with_reducible rfl
  rotate_left
  · simp only [Act.put, List.setIfInBounds_toArray, List.set_cons_zero, List.set_cons_succ, i64_w, i32_w]
    rfl
  refine pure_ (i := 14) (N := some 44) (v := ?_) (a' := ?_) #[true, true, true, true, true, true, true, true, true, true, true, true, true, true, true] rfl rfl (any_of HT_.out (by kernel_rfl)) (fun _ _ _ h => h) (Or.inl ⟨by rfl, ?_⟩) ?_ ?_
  rotate_left
  · intro w'
    go_simp
    with_reducible rfl
  rotate_left
  · simp only [Act.put, List.setIfInBounds_toArray, List.set_cons_zero, List.set_cons_succ, i64_w, i32_w]
    rfl
  refine done_ (done_of HT_.out (by kernel_rfl)) ?_
  have hx := (HB.out.cell (World.block_lt_of_cell? w _ HX0.out)).trans HX0.out
  have hcz0 : (w6.alloc (.cells #[.int .i64 300] 63)).cell? ⟨w.heap.size, 0, none⟩ = some (.string ⟨#[]⟩) := (blk_cell (blk_alloc BK.out _) 0).trans rfl
  have hfz0 := blk_frozen (blk_alloc BK.out (.cells #[.int .i64 300] 63)) 0
  have hcz1 : (w6.alloc (.cells #[.int .i64 300] 63)).cell? ⟨w.heap.size, 1, none⟩ = some (.string ⟨#[]⟩) := (blk_cell (blk_alloc BK.out _) 1).trans rfl
  have hfz1 := blk_frozen (blk_alloc BK.out (.cells #[.int .i64 300] 63)) 1
  go_wp2
  exact bodyPost_ret (results_ctt rfl _ _ w.heap.size 24 #[.string ⟨#[]⟩, .string ⟨#[]⟩] (0, 0) _ rfl (by (with_reducible repeat (first | refine blk_drewN ?_ _ | refine blk_drew ?_ | refine blk_alloc ?_ _)); refine blk_put (cs := #[.string ⟨#[]⟩, .string ⟨#[]⟩]) ?_ 1 _ rfl; (with_reducible repeat (first | refine blk_drewN ?_ _ | refine blk_drew ?_ | refine blk_alloc ?_ _)); refine blk_put (cs := #[.string ⟨#[]⟩, .string ⟨#[]⟩]) ?_ 0 _ rfl; (with_reducible repeat (first | refine blk_drewN ?_ _ | refine blk_drew ?_ | refine blk_alloc ?_ _)); exact BK.out) Tryd.underlying24 rfl (by kernel_rfl)) rfl
    ⟨w6.heap.size, rfl, HB.out.size, by (refine blk_far ?_ ?_ _; (refine blk_far ?_ ?_ _; exact blk_new w6 _); all_goals (have := blk_lt BK.out; simp; omega)), by repeat (first | exact HB.out | apply below_alloc | apply pw_below_drewN | apply below_drew1 | refine below_set ?_ (Nat.le_refl _))⟩

set_option maxHeartbeats 8000000 in
set_option maxRecDepth 100000 in
theorem entry_may (A0 : Option Addr) (c0 : Nat) (l0 : List Int) (w : World) (hr0 : Kd.C (Kd.int .u8) w A0 l0.length l0) (hc : l0.length ≤ c0) (hb : bytesB l0 = true) (h : 4 ≤ l0.length) (hm : 8 + (num4 l0).toNat ≤ l0.length) (hs : crc (l0.take (4 + (num4 l0).toNat)) = num4 (l0.drop (4 + (num4 l0).toNat))) (h0 : 1 ≤ (num4 l0).toNat) (hk : 1 + (rd (payOf l0 (num4 l0).toNat) 0).toNat ≤ (num4 l0).toNat) (hy : mayN (rd (payOf l0 (num4 l0).toNat) 0).toNat ((num4 l0).toNat - 1 - (rd (payOf l0 (num4 l0).toNat) 0).toNat) = false) :
    Calls Tryd.prog 32 #[.slice A0 l0.length c0] w (BadPost 300 w) := by
  have h1 : decide ((l0.length : Int) < 4) = false := decide_eq_false (by omega)
  have h2 : decide (l0.length < 4) = false := decide_eq_false (by omega)
  have hmx : l0.length ≤ 9223372036854775807 := hr0.2.1
  have HR0 := Aside0.mk hr0
  have HC := Aside0.mk hc
  obtain ⟨r0, r1⟩ := num4_range hb h
  obtain ⟨m, hm4⟩ : ∃ m : Nat, num4 l0 = m := ⟨(num4 l0).toNat, by omega⟩
  have hn4 : store_number.f l0 = some (m : Int) := by unfold store_number.f; rw [if_pos ⟨hb, h⟩, hm4]
  have HN4 := Aside0.mk hn4
  rw [hm4, Int.toNat_natCast] at hm
  rw [hm4, Int.toNat_natCast] at hs
  have h3 : ¬ (l0.length : Int) - 8 < (m : Int) := by omega
  have hpm := cut_mid (A0 := A0) (c0 := c0) (l0 := l0) 4 (4 + m) (by omega) (by omega) hc
  have hpt := cut_take (A0 := A0) (c0 := c0) (l0 := l0) (4 + m) (by omega) hc
  have hpd := cut_drop (A0 := A0) (c0 := c0) (l0 := l0) (4 + m) (by omega) hc
  obtain ⟨A1, hq1, hC1, hl1⟩ := hpm
  obtain ⟨A2, hq2, hC2, hl2⟩ := hpd
  obtain ⟨T, hT⟩ : ∃ T, T = l0.take (4 + m) := ⟨_, rfl⟩
  obtain ⟨D, hD⟩ : ∃ D, D = l0.drop (4 + m) := ⟨_, rfl⟩
  obtain ⟨Q, hQ⟩ : ∃ Q, Q = (l0.take (4 + m)).drop 4 := ⟨_, rfl⟩
  rw [← hT, ← hD] at hs
  rw [← hT] at hpt
  rw [← hD] at hq2 hC2 hl2
  rw [← hQ] at hq1 hC1 hl1
  have hTl : T.length = 4 + m := by rw [hT, List.length_take]; omega
  have hDl : D.length = l0.length - (4 + m) := by rw [hD, List.length_drop]
  have hQl : Q.length = m := by rw [hQ, List.length_drop, List.length_take]; omega
  have hQB : bytesB Q = true := by rw [hQ]; exact bytesB_drop (bytesB_take hb _) _
  have hD4 : 4 ≤ D.length := by omega
  have hDB : bytesB D = true := by rw [hD]; exact bytesB_drop hb _
  have hsum : store_Sum.f T = some (crc T) := by unfold store_Sum.f; rw [if_pos (by rw [hT]; exact bytesB_take hb _)]
  have HSM := Aside0.mk hsum
  have hnum : store_number.f D = some (num4 D) := by unfold store_number.f; rw [if_pos ⟨hDB, hD4⟩]
  have HNM := Aside0.mk hnum
  have HCT := Aside0.mk (show Kd.C (Kd.int .u8) w A0 T.length T by rw [hT]; exact Kd.C_take hr0 (by omega))
  have HCD := Aside0.mk (hC2 w hr0)
  have HCQ := Aside0.mk (hC1 w hr0)
  have HTl := Aside0.mk (show T.length ≤ c0 by omega)
  have HDl := Aside0.mk hl2
  have HQl := Aside0.mk hl1
  have hcr := crc_range T
  have hwc : IntKind.i64.wrap (crc T) = crc T := by rw [IntKind.wrap_i64]; omega
  have hwc2 : wrap64 (crc T) = crc T := by unfold wrap64; omega
  have e4 : ((4 + m : Nat) : Int) = 4 + (m : Int) := by omega
  rw [e4, show ((4 : Nat) : Int) = 4 from rfl] at hq1
  rw [e4] at hq2
  have hpt' : ∀ W : World, (Instr.slice 22 (.slice A0 l0.length c0) none (some (.int .i64 (4 + (m : Int)))) none).run Tryd.prog W = .ok (.slice A0 T.length c0) W := by rw [← e4]; exact hpt
  have hm8 : 4 + (m : Int) ≤ (l0.length : Int) := by omega
  rw [hQl] at hq1
  rw [hm4, Int.toNat_natCast] at h0
  obtain ⟨n, hn8, hrd, hq0_⟩ := bytesB_get hQB 0 (by omega)
  clear hq0_
  have hrd' : rd Q 0 = (n : Int) := hrd
  have hz1 : ((m : Int) == 0) = false := by simp; omega
  have hz2 : (m == 0) = false := by simp; omega
  have hi1 : (0 : Int) < (m : Int) := by omega
  have hi2 : 0 < m := by omega
  have hne1 : (crc T == num4 D) = true := beq_iff_eq.mpr hs
  have hne2 : (crc T != num4 D) = false := bne_eq_false_iff_eq.mpr hs
  obtain ⟨ad, e1, hx0⟩ := Kd.at_int HCQ.out 0 (by omega) (by omega)
  subst e1
  rw [hrd', show ((0 : Int)).toNat = 0 from rfl, Addr.add_zero'] at hx0
  have HX0 := Aside0.mk hx0
  have HQL := Aside0.mk hQl
  rw [hm4, Int.toNat_natCast, show payOf l0 m = Q from hQ.symm, hrd', Int.toNat_natCast] at hk
  have hd1 : ¬ (m : Int) - 1 - (n : Int) < 0 := by omega
  have hmy := may_isN n (m - 1 - n)
  rw [show ((m - 1 - n : Nat) : Int) = (m : Int) - 1 - (n : Int) by omega] at hmy
  rw [hm4, Int.toNat_natCast, show payOf l0 m = Q from hQ.symm, hrd', Int.toNat_natCast] at hy
  rw [hy] at hmy
  have HMY := Aside0.mk hmy
  clear hs hQ hQl hQB HCQ HQl h0 hx0 hrd hrd' hmy hy
  have HM4 := Aside0.mk hm4
  have HBY := Aside0.mk hb
  clear hr0 hb hc hm hT hD hC1 hC2 hl1 hl2 hTl hDl hsum hpt e4 r0 r1 hm4 hcr hnum hDB hn4
  go_enter Tryd.func32, Tryd.ntmps32
  go_wp2_with (go_at_call 38; refine (number_is _ _ l0 _ HM4.out _ (Kd.C_below HR0.out (by repeat (first | exact Below.refl _ _ | apply below_alloc | apply pw_below_drewN | apply below_drew1))) HBY.out h).mono ?_; rintro e w1 ⟨rfl, rfl⟩)
  have BK := Aside0.mk (show (w.alloc (.cells #[.string ⟨#[]⟩, .string ⟨#[]⟩] 24)).drew.heap[w.heap.size]? = some (.cells #[.string ⟨#[]⟩, .string ⟨#[]⟩] 24 (0, 0)) from blk_drew (blk_new w _))
  have HB := Aside0.mk (show Below w.heap.size w (w.alloc (.cells #[.string ⟨#[]⟩, .string ⟨#[]⟩] 24)).drew from (by repeat (first | exact Below.refl _ _ | apply below_alloc | apply pw_below_drewN | apply below_drew1)))
  refine start_ (n := 15) (S := fun w' => True) (ds := []) #[false, false, false, false, false, false, false, false, false, false, false, false, false, false, false] (by kernel_rfl) rfl rfl trivial (fun hHeld => ?_); refine with_tabW store_entry.tab5 store_entry.bits5 (fun HT_ HW_ => ?_)
  generalize (w.alloc (.cells #[.string ⟨#[]⟩, .string ⟨#[]⟩] 24)).drew = wd at BK HB hHeld ⊢
  refine pure_ (i := 0) (N := some 30) (v := ?_) (a' := ?_) #[true, false, false, false, false, false, false, false, false, false, false, false, false, false, false] rfl rfl (any_of HT_.out (by kernel_rfl)) (fun _ _ _ h => h) (Or.inl ⟨by rfl, ?_⟩) ?_ ?_
  rotate_left
  · intro w'
    go_simp
    with_reducible rfl
  rotate_left
  · simp only [Act.put, List.setIfInBounds_toArray, List.set_cons_zero, List.set_cons_succ, i64_w, i32_w]
    rfl
  refine pure_ (i := 1) (N := some 31) (v := ?_) (a' := ?_) #[true, true, false, false, false, false, false, false, false, false, false, false, false, false, false] rfl rfl (any_of HT_.out (by kernel_rfl)) (fun _ _ _ h => h) (Or.inl ⟨by rfl, ?_⟩) ?_ ?_
  rotate_left
  · intro w'
    go_simp
    with_reducible rfl
  rotate_left
  · simp only [Act.put, List.setIfInBounds_toArray, List.set_cons_zero, List.set_cons_succ, i64_w, i32_w]
    rfl
  refine pure_ (i := 2) (N := some 32) (v := ?_) (a' := ?_) #[true, true, true, false, false, false, false, false, false, false, false, false, false, false, false] rfl rfl (any_of HT_.out (by kernel_rfl)) (fun _ _ _ h => h) (Or.inl ⟨by rfl, ?_⟩) ?_ ?_
  rotate_left
  · intro w'
    go_simp
    with_reducible rfl
  rotate_left
  · simp only [Act.put, List.setIfInBounds_toArray, List.set_cons_zero, List.set_cons_succ, i64_w, i32_w]
    rfl
  refine pure_ (i := 5) (N := some 35) (v := ?_) (a' := ?_) #[true, true, true, false, false, true, false, false, false, false, false, false, false, false, false] rfl rfl (any_of HT_.out (by kernel_rfl)) (fun _ _ _ h => h) (Or.inl ⟨by rfl, ?_⟩) ?_ ?_
  rotate_left
  · intro w'
    go_simp
    with_reducible rfl
  rotate_left
  · simp only [Act.put, List.setIfInBounds_toArray, List.set_cons_zero, List.set_cons_succ, i64_w, i32_w]
    rfl
  refine pure_ (i := 6) (N := some 36) (v := ?_) (a' := ?_) #[true, true, true, false, false, true, true, false, false, false, false, false, false, false, false] rfl rfl (any_of HT_.out (by kernel_rfl)) (fun _ _ _ h => h) (Or.inl ⟨by rfl, ?_⟩) ?_ ?_
  rotate_left
  · intro w'
    go_simp
    with_reducible rfl
  rotate_left
  · simp only [Act.put, List.setIfInBounds_toArray, List.set_cons_zero, List.set_cons_succ, i64_w, i32_w]
    rfl
  refine pure_ (i := 7) (N := some 37) (v := ?_) (a' := ?_) #[true, true, true, false, false, true, true, true, false, false, false, false, false, false, false] rfl rfl (any_of HT_.out (by kernel_rfl)) (fun _ _ _ h => h) (Or.inl ⟨by rfl, ?_⟩) ?_ ?_
  rotate_left
  · intro w'
    go_simp
    with_reducible rfl
  rotate_left
  · simp only [Act.put, List.setIfInBounds_toArray, List.set_cons_zero, List.set_cons_succ, i64_w, i32_w]
    rfl
  refine one_ (i := 3) (N := some 33) #[true, true, true, true, false, true, true, true, false, false, false, false, false, false, false] rfl rfl (one_of HT_.out (by kernel_rfl)) (by decide) (fun K hK => ?_)
  refine goes_ Tryd.func17 (by kernel_rfl) rfl #[.slice A0 T.length c0] (by rfl) rfl rfl (by (try simp only [List.map_toArray, List.map_cons, List.map_nil]); first | done | rfl) ?_
  with_reducible refine (store_Sum.calls _ _ T (crc T) _ ?side1 ?side2 HSM.out).mono ?_
  (case side1 => exact Kd.C_below HCT.out HB.out)
  (case side2 => exact HTl.out)
  rintro e w5 ⟨rfl, hb⟩
  refine ⟨_, rfl, ?_⟩
  have n0_ := Aside0.mk (blk_below (g := w.heap.size) (o := .cells #[.string ⟨#[]⟩, .string ⟨#[]⟩] 24 (0, 0)) BK.out hb)
  have n1_ := Aside0.mk (below_step HB.out hb)
  clear BK HB
  have BK := n0_
  have HB := n1_
  clear n0_ n1_ hb
  refine hK.out _ _ trivial (fun hHeld => ?_)
  clear hK K
  refine norm_ (a' := ?_) ?_ ?_
  rotate_left
  · show Act.put _ (some 33) _ = _
    simp only [Act.put, List.setIfInBounds_toArray, List.set_cons_zero, List.set_cons_succ, i64_w, i32_w]
    rfl
  refine pure_ (i := 4) (N := some 34) (v := ?_) (a' := ?_) #[true, true, true, true, true, true, true, true, false, false, false, false, false, false, false] rfl rfl (any_of HT_.out (by kernel_rfl)) (fun _ _ _ h => h) (Or.inl ⟨by rfl, ?_⟩) ?_ ?_
  rotate_left
  · intro w'
    go_simp
    with_reducible rfl
  rotate_left
  · simp only [Act.put, List.setIfInBounds_toArray, List.set_cons_zero, List.set_cons_succ, i64_w, i32_w]
    rfl
  refine one_ (i := 8) (N := some 38) #[true, true, true, true, true, true, true, true, true, false, false, false, false, false, false] rfl rfl (one_of HT_.out (by kernel_rfl)) (by decide) (fun K hK => ?_)
  refine goes_ Tryd.func38 (by kernel_rfl) rfl #[.slice A2 D.length (c0 - (4 + m))] (by rfl) rfl rfl (by (try simp only [List.map_toArray, List.map_cons, List.map_nil]); first | done | rfl) ?_
  with_reducible refine (store_number.calls _ _ D (num4 D) _ ?side1 ?side2 HNM.out).mono ?_
  (case side1 => exact Kd.C_below HCD.out HB.out)
  (case side2 => exact HDl.out)
  rintro e w6 ⟨rfl, hb⟩
  refine ⟨_, rfl, ?_⟩
  have n0_ := Aside0.mk (blk_below (g := w.heap.size) (o := .cells #[.string ⟨#[]⟩, .string ⟨#[]⟩] 24 (0, 0)) BK.out hb)
  have n1_ := Aside0.mk (below_step HB.out hb)
  clear BK HB
  have BK := n0_
  have HB := n1_
  clear n0_ n1_ hb
  refine hK.out _ _ trivial (fun hHeld => ?_)
  clear hK K
  refine norm_ (a' := ?_) ?_ ?_
  rotate_left
  · show Act.put _ (some 38) _ = _
    simp only [Act.put, List.setIfInBounds_toArray, List.set_cons_zero, List.set_cons_succ, i64_w, i32_w]
    rfl
  refine pure_ (i := 9) (N := some 39) (v := ?_) (a' := ?_) #[true, true, true, true, true, true, true, true, true, true, false, false, false, false, false] rfl rfl (any_of HT_.out (by kernel_rfl)) (fun _ _ _ h => h) (Or.inl ⟨by rfl, ?_⟩) ?_ ?_
  rotate_left
  · intro w'
    go_simp
    with_reducible rfl
  rotate_left
  · simp only [Act.put, List.setIfInBounds_toArray, List.set_cons_zero, List.set_cons_succ, i64_w, i32_w]
    rfl
  refine pure_ (i := 10) (N := some 40) (v := ?_) (a' := ?_) #[true, true, true, true, true, true, true, true, true, true, true, false, false, false, false] rfl rfl (any_of HT_.out (by kernel_rfl)) (fun _ _ _ h => h) (Or.inl ⟨by rfl, ?_⟩) ?_ ?_
  rotate_left
  · intro w'
    go_simp
    with_reducible rfl
  rotate_left
  · simp only [Act.put, List.setIfInBounds_toArray, List.set_cons_zero, List.set_cons_succ, i64_w, i32_w]
    rfl
  refine pure_ (i := 11) (N := some 41) (v := ?_) (a' := ?_) #[true, true, true, true, true, true, true, true, true, true, true, true, false, false, false] rfl rfl (any_of HT_.out (by kernel_rfl)) (fun _ _ _ h => h) (Or.inl ⟨by rfl, ?_⟩) ?_ ?_
  rotate_left
  · intro w'
    go_simp
    with_reducible rfl
  rotate_left
  · simp only [Act.put, List.setIfInBounds_toArray, List.set_cons_zero, List.set_cons_succ, i64_w, i32_w]
    rfl
  refine pure_ (i := 12) (N := some 42) (v := ?_) (a' := ?_) #[true, true, true, true, true, true, true, true, true, true, true, true, true, false, false] rfl rfl (any_of HT_.out (by kernel_rfl)) (fun _ _ _ h => h) (Or.inl ⟨by rfl, ?_⟩) ?_ ?_
  rotate_left
  · intro w'
    go_simp
    with_reducible rfl
  rotate_left
  · simp only [Act.put, List.setIfInBounds_toArray, List.set_cons_zero, List.set_cons_succ, i64_w, i32_w]
    rfl
  refine pure_ (i := 13) (N := some 43) (v := ?_) (a' := ?_) #[true, true, true, true, true, true, true, true, true, true, true, true, true, true, false] rfl rfl (any_of HT_.out (by kernel_rfl)) (fun _ _ _ h => h) (Or.inl ⟨by rfl, ?_⟩) ?_ ?_
  rotate_left
  · intro w'
    go_simp
    with_reducible rfl
  rotate_left
  · simp only [Act.put, List.setIfInBounds_toArray, List.set_cons_zero, List.set_cons_succ, i64_w, i32_w]
    rfl
  refine pure_ (i := 14) (N := some 44) (v := ?_) (a' := ?_) #[true, true, true, true, true, true, true, true, true, true, true, true, true, true, true] rfl rfl (any_of HT_.out (by kernel_rfl)) (fun _ _ _ h => h) (Or.inl ⟨by rfl, ?_⟩) ?_ ?_
  rotate_left
  · intro w'
    go_simp
    with_reducible rfl
  rotate_left
  · simp only [Act.put, List.setIfInBounds_toArray, List.set_cons_zero, List.set_cons_succ, i64_w, i32_w]
    rfl
  refine done_ (done_of HT_.out (by kernel_rfl)) ?_
  have hx := (HB.out.cell (World.block_lt_of_cell? w _ HX0.out)).trans HX0.out
  go_wp2_with (go_at_call 24; refine (store_may.calls _ _ _ _ HMY.out).mono ?_; rintro e w7 ⟨rfl, hw7⟩; have n0_ := Aside0.mk (blk_drawn hw7 BK.out); have n1_ := Aside0.mk (below_drawn hw7 HB.out); clear BK HB hw7; have BK := n0_; have HB := n1_; clear n0_ n1_; have hcz0 : (w7.alloc (.cells #[.int .i64 300] 63)).cell? ⟨w.heap.size, 0, none⟩ = some (.string ⟨#[]⟩) := (blk_cell (blk_alloc BK.out _) 0).trans rfl; have hfz0 := blk_frozen (blk_alloc BK.out (.cells #[.int .i64 300] 63)) 0; have hcz1 : (w7.alloc (.cells #[.int .i64 300] 63)).cell? ⟨w.heap.size, 1, none⟩ = some (.string ⟨#[]⟩) := (blk_cell (blk_alloc BK.out _) 1).trans rfl; have hfz1 := blk_frozen (blk_alloc BK.out (.cells #[.int .i64 300] 63)) 1)
  exact bodyPost_ret (results_ctt rfl _ _ w.heap.size 24 #[.string ⟨#[]⟩, .string ⟨#[]⟩] (0, 0) _ rfl (by (with_reducible repeat (first | refine blk_drewN ?_ _ | refine blk_drew ?_ | refine blk_alloc ?_ _)); refine blk_put (cs := #[.string ⟨#[]⟩, .string ⟨#[]⟩]) ?_ 1 _ rfl; (with_reducible repeat (first | refine blk_drewN ?_ _ | refine blk_drew ?_ | refine blk_alloc ?_ _)); refine blk_put (cs := #[.string ⟨#[]⟩, .string ⟨#[]⟩]) ?_ 0 _ rfl; (with_reducible repeat (first | refine blk_drewN ?_ _ | refine blk_drew ?_ | refine blk_alloc ?_ _)); exact BK.out) Tryd.underlying24 rfl (by kernel_rfl)) rfl
    ⟨w7.heap.size, rfl, HB.out.size, by (refine blk_far ?_ ?_ _; (refine blk_far ?_ ?_ _; exact blk_new w7 _); all_goals (have := blk_lt BK.out; simp; omega)), by repeat (first | exact HB.out | apply below_alloc | apply pw_below_drewN | apply below_drew1 | refine below_set ?_ (Nat.le_refl _))⟩

set_option maxHeartbeats 8000000 in
set_option maxRecDepth 100000 in
theorem entry_good (A0 : Option Addr) (c0 : Nat) (l0 : List Int) (w : World) (hr0 : Kd.C (Kd.int .u8) w A0 l0.length l0) (hc : l0.length ≤ c0) (hb : bytesB l0 = true) (h : 4 ≤ l0.length) (hm : 8 + (num4 l0).toNat ≤ l0.length) (hs : crc (l0.take (4 + (num4 l0).toNat)) = num4 (l0.drop (4 + (num4 l0).toNat))) (h0 : 1 ≤ (num4 l0).toNat) (hk : 1 + (rd (payOf l0 (num4 l0).toNat) 0).toNat ≤ (num4 l0).toNat) (hy : mayN (rd (payOf l0 (num4 l0).toNat) 0).toNat ((num4 l0).toNat - 1 - (rd (payOf l0 (num4 l0).toNat) 0).toNat) = true) :
    Calls Tryd.prog 32 #[.slice A0 l0.length c0] w fun e w' => e = .returned (.tuple #[.agg #[.string (strOfNums (namOf (payOf l0 (num4 l0).toNat))), .string (strOfNums (txtOf (payOf l0 (num4 l0).toNat)))], .int .i64 ((8 + (num4 l0).toNat : Nat) : Int), .nilIface]) ∧ Below w.heap.size w w' := by
  have h1 : decide ((l0.length : Int) < 4) = false := decide_eq_false (by omega)
  have h2 : decide (l0.length < 4) = false := decide_eq_false (by omega)
  have hmx : l0.length ≤ 9223372036854775807 := hr0.2.1
  have HR0 := Aside0.mk hr0
  have HC := Aside0.mk hc
  obtain ⟨r0, r1⟩ := num4_range hb h
  obtain ⟨m, hm4⟩ : ∃ m : Nat, num4 l0 = m := ⟨(num4 l0).toNat, by omega⟩
  have hn4 : store_number.f l0 = some (m : Int) := by unfold store_number.f; rw [if_pos ⟨hb, h⟩, hm4]
  have HN4 := Aside0.mk hn4
  rw [hm4, Int.toNat_natCast] at hm
  rw [hm4, Int.toNat_natCast] at hs
  have h3 : ¬ (l0.length : Int) - 8 < (m : Int) := by omega
  have hpm := cut_mid (A0 := A0) (c0 := c0) (l0 := l0) 4 (4 + m) (by omega) (by omega) hc
  have hpt := cut_take (A0 := A0) (c0 := c0) (l0 := l0) (4 + m) (by omega) hc
  have hpd := cut_drop (A0 := A0) (c0 := c0) (l0 := l0) (4 + m) (by omega) hc
  obtain ⟨A1, hq1, hC1, hl1⟩ := hpm
  obtain ⟨A2, hq2, hC2, hl2⟩ := hpd
  obtain ⟨T, hT⟩ : ∃ T, T = l0.take (4 + m) := ⟨_, rfl⟩
  obtain ⟨D, hD⟩ : ∃ D, D = l0.drop (4 + m) := ⟨_, rfl⟩
  obtain ⟨Q, hQ⟩ : ∃ Q, Q = (l0.take (4 + m)).drop 4 := ⟨_, rfl⟩
  rw [← hT, ← hD] at hs
  rw [← hT] at hpt
  rw [← hD] at hq2 hC2 hl2
  rw [← hQ] at hq1 hC1 hl1
  have hTl : T.length = 4 + m := by rw [hT, List.length_take]; omega
  have hDl : D.length = l0.length - (4 + m) := by rw [hD, List.length_drop]
  have hQl : Q.length = m := by rw [hQ, List.length_drop, List.length_take]; omega
  have hQB : bytesB Q = true := by rw [hQ]; exact bytesB_drop (bytesB_take hb _) _
  have hD4 : 4 ≤ D.length := by omega
  have hDB : bytesB D = true := by rw [hD]; exact bytesB_drop hb _
  have hsum : store_Sum.f T = some (crc T) := by unfold store_Sum.f; rw [if_pos (by rw [hT]; exact bytesB_take hb _)]
  have HSM := Aside0.mk hsum
  have hnum : store_number.f D = some (num4 D) := by unfold store_number.f; rw [if_pos ⟨hDB, hD4⟩]
  have HNM := Aside0.mk hnum
  have HCT := Aside0.mk (show Kd.C (Kd.int .u8) w A0 T.length T by rw [hT]; exact Kd.C_take hr0 (by omega))
  have HCD := Aside0.mk (hC2 w hr0)
  have HCQ := Aside0.mk (hC1 w hr0)
  have HTl := Aside0.mk (show T.length ≤ c0 by omega)
  have HDl := Aside0.mk hl2
  have HQl := Aside0.mk hl1
  have hcr := crc_range T
  have hwc : IntKind.i64.wrap (crc T) = crc T := by rw [IntKind.wrap_i64]; omega
  have hwc2 : wrap64 (crc T) = crc T := by unfold wrap64; omega
  have e4 : ((4 + m : Nat) : Int) = 4 + (m : Int) := by omega
  rw [e4, show ((4 : Nat) : Int) = 4 from rfl] at hq1
  rw [e4] at hq2
  have hpt' : ∀ W : World, (Instr.slice 22 (.slice A0 l0.length c0) none (some (.int .i64 (4 + (m : Int)))) none).run Tryd.prog W = .ok (.slice A0 T.length c0) W := by rw [← e4]; exact hpt
  have hm8 : 4 + (m : Int) ≤ (l0.length : Int) := by omega
  rw [hQl] at hq1
  rw [hm4, Int.toNat_natCast] at h0
  obtain ⟨n, hn8, hrd, hq0_⟩ := bytesB_get hQB 0 (by omega)
  clear hq0_
  have hrd' : rd Q 0 = (n : Int) := hrd
  have hz1 : ((m : Int) == 0) = false := by simp; omega
  have hz2 : (m == 0) = false := by simp; omega
  have hi1 : (0 : Int) < (m : Int) := by omega
  have hi2 : 0 < m := by omega
  have hne1 : (crc T == num4 D) = true := beq_iff_eq.mpr hs
  have hne2 : (crc T != num4 D) = false := bne_eq_false_iff_eq.mpr hs
  obtain ⟨ad, e1, hx0⟩ := Kd.at_int HCQ.out 0 (by omega) (by omega)
  subst e1
  rw [hrd', show ((0 : Int)).toNat = 0 from rfl, Addr.add_zero'] at hx0
  have HX0 := Aside0.mk hx0
  have HQL := Aside0.mk hQl
  rw [hm4, Int.toNat_natCast, show payOf l0 m = Q from hQ.symm, hrd', Int.toNat_natCast] at hk
  have hd1 : ¬ (m : Int) - 1 - (n : Int) < 0 := by omega
  have hmy := may_isN n (m - 1 - n)
  rw [show ((m - 1 - n : Nat) : Int) = (m : Int) - 1 - (n : Int) by omega] at hmy
  rw [hm4, Int.toNat_natCast, show payOf l0 m = Q from hQ.symm, hrd', Int.toNat_natCast] at hy
  rw [hy] at hmy
  have HMY := Aside0.mk hmy
  obtain ⟨A5, hq5, hC5, hl5⟩ := cut_mid (A0 := some ad) (c0 := c0 - 4) (l0 := Q) 1 (1 + n) (by omega) (by omega) HQl.out
  obtain ⟨A6, hq6, hC6, hl6⟩ := cut_drop (A0 := some ad) (c0 := c0 - 4) (l0 := Q) (1 + n) (by omega) HQl.out
  obtain ⟨N, hN⟩ : ∃ N, N = (Q.take (1 + n)).drop 1 := ⟨_, rfl⟩
  obtain ⟨X, hX⟩ : ∃ X, X = Q.drop (1 + n) := ⟨_, rfl⟩
  rw [← hN] at hq5 hC5 hl5
  rw [← hX] at hq6 hC6 hl6
  have e5 : ((1 + n : Nat) : Int) = 1 + (n : Int) := by omega
  rw [e5, hQl, show ((1 : Nat) : Int) = 1 from rfl] at hq5
  rw [e5, hQl] at hq6
  obtain ⟨c5, hc5⟩ : ∃ c, c = c0 - 4 - 1 := ⟨_, rfl⟩
  obtain ⟨c6, hc6⟩ : ∃ c, c = c0 - 4 - (1 + n) := ⟨_, rfl⟩
  rw [← hc5] at hq5
  rw [← hc6] at hq6
  clear hc5 hc6
  have HCN := Aside0.mk (hC5 w HCQ.out)
  have HCX := Aside0.mk (hC6 w HCQ.out)
  have hn1 : 1 + (n : Int) ≤ (m : Int) := by omega
  have hw1 : IntKind.i64.wrap (1 + (n : Int)) = 1 + (n : Int) := by rw [IntKind.wrap_i64]; omega
  have hw2 : wrap64 (1 + (n : Int)) = 1 + (n : Int) := by unfold wrap64; omega
  have hres : strOfNums (namOf (payOf l0 (num4 l0).toNat)) = strOfNums N ∧ strOfNums (txtOf (payOf l0 (num4 l0).toNat)) = strOfNums X ∧ (8 + (num4 l0).toNat : Nat) = 8 + m := by
    rw [hm4, Int.toNat_natCast, show payOf l0 m = Q from hQ.symm]
    unfold namOf txtOf
    rw [hrd', Int.toNat_natCast, ← hN, ← hX]
    exact ⟨rfl, rfl, rfl⟩
  have HRES := Aside0.mk hres
  rw [hres.1, hres.2.1, hres.2.2]
  clear hs hQ hQl hQB HCQ HQl h0 hx0 hrd hrd' hmy hy hC5 hC6 hl5 hl6 hN hX e5 hres
  have HM4 := Aside0.mk hm4
  have HBY := Aside0.mk hb
  clear hr0 hb hc hm hT hD hC1 hC2 hl1 hl2 hTl hDl hsum hpt e4 r0 r1 hm4 hcr hnum hDB hn4
  go_enter Tryd.func32, Tryd.ntmps32
  go_wp2_with (go_at_call 38; refine (number_is _ _ l0 _ HM4.out _ (Kd.C_below HR0.out (by repeat (first | exact Below.refl _ _ | apply below_alloc | apply pw_below_drewN | apply below_drew1))) HBY.out h).mono ?_; rintro e w1 ⟨rfl, rfl⟩)
  have BK := Aside0.mk (show (w.alloc (.cells #[.string ⟨#[]⟩, .string ⟨#[]⟩] 24)).drew.heap[w.heap.size]? = some (.cells #[.string ⟨#[]⟩, .string ⟨#[]⟩] 24 (0, 0)) from blk_drew (blk_new w _))
  have HB := Aside0.mk (show Below w.heap.size w (w.alloc (.cells #[.string ⟨#[]⟩, .string ⟨#[]⟩] 24)).drew from (by repeat (first | exact Below.refl _ _ | apply below_alloc | apply pw_below_drewN | apply below_drew1)))
  refine start_ (n := 15) (S := fun w' => True) (ds := []) #[false, false, false, false, false, false, false, false, false, false, false, false, false, false, false] (by kernel_rfl) rfl rfl trivial (fun hHeld => ?_); refine with_tabW store_entry.tab5 store_entry.bits5 (fun HT_ HW_ => ?_)
  generalize (w.alloc (.cells #[.string ⟨#[]⟩, .string ⟨#[]⟩] 24)).drew = wd at BK HB hHeld ⊢
  refine pure_ (i := 0) (N := some 30) (v := ?_) (a' := ?_) #[true, false, false, false, false, false, false, false, false, false, false, false, false, false, false] rfl rfl (any_of HT_.out (by kernel_rfl)) (fun _ _ _ h => h) (Or.inl ⟨by rfl, ?_⟩) ?_ ?_
  rotate_left
  · intro w'
    go_simp
    with_reducible rfl
  rotate_left
  · simp only [Act.put, List.setIfInBounds_toArray, List.set_cons_zero, List.set_cons_succ, i64_w, i32_w]
    rfl
  refine pure_ (i := 1) (N := some 31) (v := ?_) (a' := ?_) #[true, true, false, false, false, false, false, false, false, false, false, false, false, false, false] rfl rfl (any_of HT_.out (by kernel_rfl)) (fun _ _ _ h => h) (Or.inl ⟨by rfl, ?_⟩) ?_ ?_
  rotate_left
  · intro w'
    go_simp
    with_reducible rfl
  rotate_left
  · simp only [Act.put, List.setIfInBounds_toArray, List.set_cons_zero, List.set_cons_succ, i64_w, i32_w]
    rfl
  refine pure_ (i := 2) (N := some 32) (v := ?_) (a' := ?_) #[true, true, true, false, false, false, false, false, false, false, false, false, false, false, false] rfl rfl (any_of HT_.out (by kernel_rfl)) (fun _ _ _ h => h) (Or.inl ⟨by rfl, ?_⟩) ?_ ?_
  rotate_left
  · intro w'
    go_simp
    with_reducible rfl
  rotate_left
  · simp only [Act.put, List.setIfInBounds_toArray, List.set_cons_zero, List.set_cons_succ, i64_w, i32_w]
    rfl
  refine pure_ (i := 5) (N := some 35) (v := ?_) (a' := ?_) #[true, true, true, false, false, true, false, false, false, false, false, false, false, false, false] rfl rfl (any_of HT_.out (by kernel_rfl)) (fun _ _ _ h => h) (Or.inl ⟨by rfl, ?_⟩) ?_ ?_
  rotate_left
  · intro w'
    go_simp
    with_reducible rfl
  rotate_left
  · simp only [Act.put, List.setIfInBounds_toArray, List.set_cons_zero, List.set_cons_succ, i64_w, i32_w]
    rfl
  refine pure_ (i := 6) (N := some 36) (v := ?_) (a' := ?_) #[true, true, true, false, false, true, true, false, false, false, false, false, false, false, false] rfl rfl (any_of HT_.out (by kernel_rfl)) (fun _ _ _ h => h) (Or.inl ⟨by rfl, ?_⟩) ?_ ?_
  rotate_left
  · intro w'
    go_simp
    with_reducible rfl
  rotate_left
  · simp only [Act.put, List.setIfInBounds_toArray, List.set_cons_zero, List.set_cons_succ, i64_w, i32_w]
    rfl
  refine pure_ (i := 7) (N := some 37) (v := ?_) (a' := ?_) #[true, true, true, false, false, true, true, true, false, false, false, false, false, false, false] rfl rfl (any_of HT_.out (by kernel_rfl)) (fun _ _ _ h => h) (Or.inl ⟨by rfl, ?_⟩) ?_ ?_
  rotate_left
  · intro w'
    go_simp
    with_reducible rfl
  rotate_left
  · simp only [Act.put, List.setIfInBounds_toArray, List.set_cons_zero, List.set_cons_succ, i64_w, i32_w]
    rfl
  refine one_ (i := 3) (N := some 33) #[true, true, true, true, false, true, true, true, false, false, false, false, false, false, false] rfl rfl (one_of HT_.out (by kernel_rfl)) (by decide) (fun K hK => ?_)
  refine goes_ Tryd.func17 (by kernel_rfl) rfl #[.slice A0 T.length c0] (by rfl) rfl rfl (by (try simp only [List.map_toArray, List.map_cons, List.map_nil]); first | done | rfl) ?_
  with_reducible refine (store_Sum.calls _ _ T (crc T) _ ?side1 ?side2 HSM.out).mono ?_
  (case side1 => exact Kd.C_below HCT.out HB.out)
  (case side2 => exact HTl.out)
  rintro e w5 ⟨rfl, hb⟩
  refine ⟨_, rfl, ?_⟩
  have n0_ := Aside0.mk (blk_below (g := w.heap.size) (o := .cells #[.string ⟨#[]⟩, .string ⟨#[]⟩] 24 (0, 0)) BK.out hb)
  have n1_ := Aside0.mk (below_step HB.out hb)
  clear BK HB
  have BK := n0_
  have HB := n1_
  clear n0_ n1_ hb
  refine hK.out _ _ trivial (fun hHeld => ?_)
  clear hK K
  refine norm_ (a' := ?_) ?_ ?_
  rotate_left
  · show Act.put _ (some 33) _ = _
    simp only [Act.put, List.setIfInBounds_toArray, List.set_cons_zero, List.set_cons_succ, i64_w, i32_w]
    rfl
  refine pure_ (i := 4) (N := some 34) (v := ?_) (a' := ?_) #[true, true, true, true, true, true, true, true, false, false, false, false, false, false, false] rfl rfl (any_of HT_.out (by kernel_rfl)) (fun _ _ _ h => h) (Or.inl ⟨by rfl, ?_⟩) ?_ ?_
  rotate_left
  · intro w'
    go_simp
    with_reducible rfl
  rotate_left
  · simp only [Act.put, List.setIfInBounds_toArray, List.set_cons_zero, List.set_cons_succ, i64_w, i32_w]
    rfl
  refine one_ (i := 8) (N := some 38) #[true, true, true, true, true, true, true, true, true, false, false, false, false, false, false] rfl rfl (one_of HT_.out (by kernel_rfl)) (by decide) (fun K hK => ?_)
  refine goes_ Tryd.func38 (by kernel_rfl) rfl #[.slice A2 D.length (c0 - (4 + m))] (by rfl) rfl rfl (by (try simp only [List.map_toArray, List.map_cons, List.map_nil]); first | done | rfl) ?_
  with_reducible refine (store_number.calls _ _ D (num4 D) _ ?side1 ?side2 HNM.out).mono ?_
  (case side1 => exact Kd.C_below HCD.out HB.out)
  (case side2 => exact HDl.out)
  rintro e w6 ⟨rfl, hb⟩
  refine ⟨_, rfl, ?_⟩
  have n0_ := Aside0.mk (blk_below (g := w.heap.size) (o := .cells #[.string ⟨#[]⟩, .string ⟨#[]⟩] 24 (0, 0)) BK.out hb)
  have n1_ := Aside0.mk (below_step HB.out hb)
  clear BK HB
  have BK := n0_
  have HB := n1_
  clear n0_ n1_ hb
  refine hK.out _ _ trivial (fun hHeld => ?_)
  clear hK K
  refine norm_ (a' := ?_) ?_ ?_
  rotate_left
  · show Act.put _ (some 38) _ = _
    simp only [Act.put, List.setIfInBounds_toArray, List.set_cons_zero, List.set_cons_succ, i64_w, i32_w]
    rfl
  refine pure_ (i := 9) (N := some 39) (v := ?_) (a' := ?_) #[true, true, true, true, true, true, true, true, true, true, false, false, false, false, false] rfl rfl (any_of HT_.out (by kernel_rfl)) (fun _ _ _ h => h) (Or.inl ⟨by rfl, ?_⟩) ?_ ?_
  rotate_left
  · intro w'
    go_simp
    with_reducible rfl
  rotate_left
  · simp only [Act.put, List.setIfInBounds_toArray, List.set_cons_zero, List.set_cons_succ, i64_w, i32_w]
    rfl
  refine pure_ (i := 10) (N := some 40) (v := ?_) (a' := ?_) #[true, true, true, true, true, true, true, true, true, true, true, false, false, false, false] rfl rfl (any_of HT_.out (by kernel_rfl)) (fun _ _ _ h => h) (Or.inl ⟨by rfl, ?_⟩) ?_ ?_
  rotate_left
  · intro w'
    go_simp
    with_reducible rfl
  rotate_left
  · simp only [Act.put, List.setIfInBounds_toArray, List.set_cons_zero, List.set_cons_succ, i64_w, i32_w]
    rfl
  refine pure_ (i := 11) (N := some 41) (v := ?_) (a' := ?_) #[true, true, true, true, true, true, true, true, true, true, true, true, false, false, false] rfl rfl (any_of HT_.out (by kernel_rfl)) (fun _ _ _ h => h) (Or.inl ⟨by rfl, ?_⟩) ?_ ?_
  rotate_left
  · intro w'
    go_simp
    with_reducible rfl
  rotate_left
  · simp only [Act.put, List.setIfInBounds_toArray, List.set_cons_zero, List.set_cons_succ, i64_w, i32_w]
    rfl
  refine pure_ (i := 12) (N := some 42) (v := ?_) (a' := ?_) #[true, true, true, true, true, true, true, true, true, true, true, true, true, false, false] rfl rfl (any_of HT_.out (by kernel_rfl)) (fun _ _ _ h => h) (Or.inl ⟨by rfl, ?_⟩) ?_ ?_
  rotate_left
  · intro w'
    go_simp
    with_reducible rfl
  rotate_left
  · simp only [Act.put, List.setIfInBounds_toArray, List.set_cons_zero, List.set_cons_succ, i64_w, i32_w]
    rfl
  refine pure_ (i := 13) (N := some 43) (v := ?_) (a' := ?_) #[true, true, true, true, true, true, true, true, true, true, true, true, true, true, false] rfl rfl (any_of HT_.out (by kernel_rfl)) (fun _ _ _ h => h) (Or.inl ⟨by rfl, ?_⟩) ?_ ?_
  rotate_left
  · intro w'
    go_simp
    with_reducible rfl
  rotate_left
  · simp only [Act.put, List.setIfInBounds_toArray, List.set_cons_zero, List.set_cons_succ, i64_w, i32_w]
    rfl
  refine pure_ (i := 14) (N := some 44) (v := ?_) (a' := ?_) #[true, true, true, true, true, true, true, true, true, true, true, true, true, true, true] rfl rfl (any_of HT_.out (by kernel_rfl)) (fun _ _ _ h => h) (Or.inl ⟨by rfl, ?_⟩) ?_ ?_
  rotate_left
  · intro w'
    go_simp
    with_reducible rfl
  rotate_left
  · simp only [Act.put, List.setIfInBounds_toArray, List.set_cons_zero, List.set_cons_succ, i64_w, i32_w]
    rfl
  refine done_ (done_of HT_.out (by kernel_rfl)) ?_
  have hx := (HB.out.cell (World.block_lt_of_cell? w _ HX0.out)).trans HX0.out
  go_wp2_with (go_at_call 24; refine (store_may.calls _ _ _ _ HMY.out).mono ?_; rintro e w7 ⟨rfl, hw7⟩; have n0_ := Aside0.mk (blk_drawn hw7 BK.out); have n1_ := Aside0.mk (below_drawn hw7 HB.out); clear BK HB hw7; have BK := n0_; have HB := n1_; clear n0_ n1_)
  have n0_ := Aside0.mk (blk_drew BK.out)
  have n1_ := Aside0.mk (below_drew1 HB.out)
  clear BK HB
  have BK := n0_
  have HB := n1_
  clear n0_ n1_
  have hcv5 := Kd.C_string (P := Tryd.prog) (A := A5) (c := c5) Tryd.underlying22 Tryd.underlying5 Tryd.underlying9 (Kd.C_below HCN.out HB.out)
  have hcv6 := Kd.C_string (P := Tryd.prog) (A := A6) (c := c6) Tryd.underlying22 Tryd.underlying5 Tryd.underlying9 (Kd.C_below HCX.out HB.out)
  have hs0 : w7.drew.cell? ⟨w.heap.size, 0, none⟩ = some (.string ⟨#[]⟩) := (blk_cell BK.out 0).trans rfl
  have hs1 : w7.drew.cell? ⟨w.heap.size, 1, none⟩ = some (.string ⟨#[]⟩) := (blk_cell BK.out 1).trans rfl
  have hs2 : w7.cell? ⟨w.heap.size, 0, none⟩ = some (.string ⟨#[]⟩) := (blk_cell BK.out 0).trans rfl
  have hs3 : w7.cell? ⟨w.heap.size, 1, none⟩ = some (.string ⟨#[]⟩) := (blk_cell BK.out 1).trans rfl
  have hfs0 : w7.frozen? ⟨w.heap.size, 0, none⟩ = false := blk_frozen BK.out 0
  have hfs1 : w7.frozen? ⟨w.heap.size, 1, none⟩ = false := blk_frozen BK.out 1
  have hfs2 := blk_frozen BK.out 0
  have hfs3 := blk_frozen BK.out 1
  go_region
  all_goals go_wp2
  refine bodyPost_ret (results_ctt rfl _ _ w.heap.size 24 #[.string (strOfNums N), .string (strOfNums X)] (0, 0) _ rfl ?_ Tryd.underlying24 rfl (by kernel_rfl)) rfl ⟨?_, ?_⟩
  · refine blk_drew ?_
    refine blk_put (cs := #[.string (strOfNums N), .string ⟨#[]⟩]) ?_ 1 _ rfl
    refine blk_put (cs := #[.string ⟨#[]⟩, .string ⟨#[]⟩]) ?_ 0 _ rfl
    exact BK.out
  · exact congrArg (fun z : Int => Ending.returned (.tuple #[.agg #[.string (strOfNums N), .string (strOfNums X)], .int .i64 z, .nilIface])) (show 4 + (m : Int) + 4 = ((8 + m : Nat) : Int) by omega)
  · exact below_drew1 (below_set (below_set (below_undrew HB.out) (Nat.le_refl _)) (Nat.le_refl _))

/-- What is told of the first record. -/
def EntPost (x : Ent) (w : World) (e : Ending) (w' : World) : Prop :=
  match x with
  | .bad c => BadPost c w e w'
  | .good n t k => e = .returned (.tuple #[.agg #[.string n, .string t], .int .i64 (k : Int), .nilIface]) ∧ Below w.heap.size w w'
theorem entry_calls (A0 : Option Addr) (c0 : Nat) (l0 : List Int) (w : World) (hr0 : Kd.C (Kd.int .u8) w A0 l0.length l0) (hc : l0.length ≤ c0) (hb : bytesB l0 = true) :
    Calls Tryd.prog 32 #[.slice A0 l0.length c0] w (EntPost (entryOf l0) w) := by
  unfold entryOf
  by_cases h : l0.length < 4
  · rw [if_pos h]; exact entry_short A0 c0 l0 w h
  rw [if_neg h]
  by_cases hm : l0.length < 8 + (num4 l0).toNat
  · rw [if_pos hm]; exact entry_cut A0 c0 l0 w hr0 hc hb (by omega) hm
  rw [if_neg hm]
  by_cases hs : crc (l0.take (4 + (num4 l0).toNat)) ≠ num4 (l0.drop (4 + (num4 l0).toNat))
  · rw [if_pos hs]; exact entry_sum A0 c0 l0 w hr0 hc hb (by omega) (by omega) hs
  rw [if_neg hs]
  have hs' := Classical.not_not.1 hs
  by_cases h0 : (num4 l0).toNat = 0
  · rw [if_pos h0]; exact entry_none A0 c0 l0 w hr0 hc hb (by omega) (by omega) hs' h0
  rw [if_neg h0]
  by_cases hk : (num4 l0).toNat < 1 + (rd (payOf l0 (num4 l0).toNat) 0).toNat
  · rw [if_pos hk]; exact entry_neg A0 c0 l0 w hr0 hc hb (by omega) (by omega) hs' (by omega) hk
  rw [if_neg hk]
  cases hy : mayN (rd (payOf l0 (num4 l0).toNat) 0).toNat ((num4 l0).toNat - 1 - (rd (payOf l0 (num4 l0).toNat) 0).toNat) with
  | false => rw [if_pos rfl]; exact entry_may A0 c0 l0 w hr0 hc hb (by omega) (by omega) hs' (by omega) (by omega) hy
  | true => rw [if_neg (by simp)]; exact entry_good A0 c0 l0 w hr0 hc hb (by omega) (by omega) hs' (by omega) (by omega) hy

end Go.Proofs.YtkeegknadegaaaaDoor.Q
