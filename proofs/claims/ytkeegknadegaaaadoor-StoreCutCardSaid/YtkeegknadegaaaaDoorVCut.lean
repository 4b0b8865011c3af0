/-
  StoreCut in plain words: a log that is cut anywhere tells all entries whose records are whole, and that it is cut, unless it is cut between two.
-/
import Derived.Test.YtkeegknadegaaaaDoorQ13
import Derived.Test.YtkeegknadegaaaaDoorLHead
import Derived.Test.YtkeegknadegaaaaDoorLMade
import Derived.Test.YtkeegknadegaaaaDoorRows
import Derived.Test.YtkeegknadegaaaaDoorHLaid
import Derived.Test.YtkeegknadegaaaaDoorHRow24
import Derived.WalkKit
import Derived.ProofKit
import Derived.OpenShut
import Derived.ShutString
import Derived.ChangeOld
import Derived.Below
import Derived.SizedLaws
import Derived.WideKeyPair
import Derived.Test.YtkeegknadegaaaaDoorWSized
import Derived.Test.YtkeegknadegaaaaDoorTie
import Derived.Test.YtkeegknadegaaaaDoorCards
import Derived.SevenTiedAt
namespace Go.Proofs.YtkeegknadegaaaaDoor.Q
open Go.RowKit Go.Proofs.YtkeegknadegaaaaDoor.S Go.Proofs.YtkeegknadegaaaaDoorW.PrintWords Go.Proofs.YtkeegknadegaaaaDoorW.PrintLast Go.Proofs.YtkeegknadegaaaaDoorW.PrintMore
set_option linter.unusedVariables false

theorem entryOf_cut (n t : ByteArray) (hm : mayB n t = true) (k : Nat) (hk : k < (recOf n t).length) : entryOf ((recOf n t).take k) = .bad 301 := by
  have hl := recOf_length n t
  have hmb := mayB_iff.1 hm
  unfold entryOf
  rw [List.length_take]
  by_cases h4 : min k (recOf n t).length < 4
  · rw [if_pos h4]
  rw [if_neg h4]
  have hN : num4 ((recOf n t).take k) = ((1 + n.size + t.size : Nat) : Int) := by
    have h1 : (recOf n t) = (recOf n t).take k ++ (recOf n t).drop k := (List.take_append_drop k _).symm
    have h2 := num4_app ((recOf n t).take k) ((recOf n t).drop k) (by rw [List.length_take]; omega)
    rw [← h1] at h2
    rw [← h2]
    unfold recOf bodyOf
    simp only [List.append_assoc]
    exact num4_four_app _ _ (by omega) (by omega)
  rw [hN, if_pos (by omega)]
/-- What is told of a log that is cut. -/
theorem readL_cut : ∀ (m : List S24) (k : Nat), mayAll m → ∃ j, j ≤ m.length ∧ (logOf (m.take j)).length ≤ k ∧ (j < m.length → k < (logOf (m.take (j + 1))).length) ∧
    (readL ((logOf m).take k)).1 = m.take j ∧ (readL ((logOf m).take k)).2.1 = (logOf (m.take j)).length ∧ ((readL ((logOf m).take k)).2.2 = 0 ∨ (readL ((logOf m).take k)).2.2 = 301)
  | [], k, _ => by
    refine ⟨0, by simp, by simp [logOf], fun h => by simp at h, ?_⟩
    rw [show (logOf []).take k = [] by simp [logOf], readL_nil]
    exact ⟨rfl, rfl, .inl rfl⟩
  | e :: m, k, h => by
    have he := h e (by simp)
    have hm : mayAll m := fun x hx => h x (by simp [hx])
    by_cases hk : k < (recOf e.f0 e.f1).length
    · refine ⟨0, by simp, by simp [logOf], fun _ => ?_, ?_⟩
      · rw [List.take_succ_cons, logOf_cons]
        simpa [logOf] using hk
      · rw [logOf_cons, List.take_append_of_le_length (by omega)]
        by_cases h0 : k = 0
        · subst h0
          rw [List.take_zero, readL_nil]
          exact ⟨rfl, rfl, .inl rfl⟩
        · have hb := entryOf_cut e.f0 e.f1 he k hk
          rw [readL_bad (by intro e0; have := congrArg List.length e0; rw [List.length_take, List.length_nil] at this; omega) hb]
          exact ⟨rfl, rfl, .inr rfl⟩
    · obtain ⟨j, j1, j2, j3, j4, j5, j6⟩ := readL_cut m (k - (recOf e.f0 e.f1).length) hm
      have ht : (logOf (e :: m)).take k = recOf e.f0 e.f1 ++ (logOf m).take (k - (recOf e.f0 e.f1).length) := by
        rw [logOf_cons, List.take_append, List.take_of_length_le (by omega)]
      refine ⟨j + 1, by simp; omega, ?_, ?_, ?_⟩
      · rw [List.take_succ_cons, logOf_cons, List.length_append]
        omega
      · intro hj
        rw [List.take_succ_cons, logOf_cons, List.length_append]
        have := j3 (by simpa using hj)
        omega
      · rw [ht, readL_rec e.f0 e.f1 _ he]
        simp only
        rw [List.take_succ_cons, logOf_cons, List.length_append, j4, j5]
        exact ⟨rfl, rfl, j6⟩
theorem mayAll_take {m : List S24} (h : mayAll m) (i : Nat) : mayAll (m.take i) := fun x hx => h x (List.mem_of_mem_take hx)
theorem written_take (m : List S24) (hm : mayAll m) (hl : (logOf m).length ≤ 1000000000) (hc : m.length ≤ 12) (i k : Nat) (hk : 12 < k) : zigguratlaw30_written.f k (m.take i) = some (logOf (m.take i), true) :=
  written_is _ (mayAll_take hm i) (by have := logOf_take_le m i; omega) (by rw [List.length_take]; omega) k (by rw [List.length_take]; omega)
theorem logOf_take_mono (m : List S24) (i j : Nat) (h : i ≤ j) : (logOf (m.take i)).length ≤ (logOf (m.take j)).length := by
  have := logOf_take_le (m.take j) i
  rwa [List.take_take, show min i j = i by omega] at this
theorem cut_loop (m : List S24) (hm : mayAll m) (hl : (logOf m).length ≤ 1000000000) (hc : m.length ≤ 12) (a : Nat) (x : List S24) (n c : Int) (j : Nat) (hj : j ≤ m.length) (hja : (logOf (m.take j)).length ≤ a) :
    ∀ (d k i : Nat), j - i = d → i ≤ j → zigguratlaw30_StoreCut.l0 (13 + k + d) true m true (a : Int) x n c (i : Int) = zigguratlaw30_StoreCut.l0 (13 + k) true m true (a : Int) x n c (j : Int) := by
  intro d
  induction d with
  | zero =>
    intro k i hd hi
    obtain rfl : i = j := by omega
    rfl
  | succ d ih =>
    intro k i hd hi
    rw [show 13 + k + (d + 1) = (13 + k + d) + 1 by omega, zigguratlaw30_StoreCut.l0]
    have ew : wrap64 ((i : Int) + 1) = ((i + 1 : Nat) : Int) := by unfold wrap64; omega
    have hle := logOf_take_mono m (i + 1) j (by omega)
    rw [if_pos (by omega), ew, if_pos (by omega), if_pos (by omega), Int.toNat_natCast, written_take m hm hl hc (i + 1) _ (by omega)]
    simp only [Option.bind_some]
    rw [if_pos trivial, if_neg (by omega)]
    exact ih k (i + 1) (by omega) (by omega)
theorem cut_last (m : List S24) (hm : mayAll m) (hl : (logOf m).length ≤ 1000000000) (hc : m.length ≤ 12) (a : Nat) (c : Int) (j k : Nat) (hj : j ≤ m.length) (hja : (logOf (m.take j)).length ≤ a)
    (hjn : j < m.length → a < (logOf (m.take (j + 1))).length) (hc0 : c = 0 ∨ c = 301) (hcn : c = 0 ↔ (logOf (m.take j)).length = a) :
    zigguratlaw30_StoreCut.l0 (13 + k + 1) true m true (a : Int) (m.take j) ((logOf (m.take j)).length : Int) c (j : Int) = some true := by
  have hs := same_self (m.take j) (13 + k) (by rw [List.length_take]; omega) (by rw [List.length_take]; omega)
  have e1 : ((c == 0) == (((logOf (m.take j)).length : Int) == (a : Int))) = true := by
    by_cases h : c = 0
    · have := hcn.1 h
      rw [this, h]
      simp
    · have h1 : ¬ (logOf (m.take j)).length = a := fun e => h (hcn.2 e)
      have h2 : ¬ (((logOf (m.take j)).length : Int) = (a : Int)) := by omega
      rw [beq_eq_false_iff_ne.2 h, beq_eq_false_iff_ne.2 h2]
      rfl
  have e2 : (if c = 0 then some true else some (c == 301)) = some true := by
    rcases hc0 with h | h
    · rw [if_pos h]
    · rw [h]; rfl
  rw [zigguratlaw30_StoreCut.l0]
  have ew : wrap64 ((j : Int) + 1) = ((j + 1 : Nat) : Int) := by unfold wrap64; omega
  by_cases hjm : j < m.length
  · have := hjn hjm
    rw [if_pos (by omega), ew, if_pos (by omega), if_pos (by omega), Int.toNat_natCast, written_take m hm hl hc (j + 1) _ (by omega)]
    simp only [Option.bind_some]
    rw [if_pos trivial, if_pos (by omega), if_pos (by omega), if_pos (by omega), Int.toNat_natCast, written_take m hm hl hc j _ (by omega)]
    simp only [Option.bind_some]
    rw [if_pos trivial, if_pos trivial, if_pos trivial, hs]
    simp only [Option.bind_some]
    rw [if_pos trivial, if_pos trivial, if_pos e1, e2]
  · rw [if_neg (by omega), if_pos (by omega), if_pos (by omega), Int.toNat_natCast, written_take m hm hl hc j _ (by omega)]
    simp only [Option.bind_some]
    rw [if_pos trivial, if_pos trivial, if_pos trivial, hs]
    simp only [Option.bind_some]
    rw [if_pos trivial, if_pos trivial, if_pos e1, e2]
theorem cut_pure (l0 : List S24) (a1 : Int) (ha : 0 ≤ a1 ∧ a1 < 65536) : ∃ k, zigguratlaw30_StoreCut.f k l0 a1 = some true := by
  obtain ⟨m, h1, h2, h3, h4⟩ := made_is l0 12 (by omega) 100 (by omega)
  have hlen := short_len m h3
  have hb := logOf_bytes m h2
  obtain ⟨a, hax⟩ : ∃ a : Nat, (a : Int) = Int.tmod a1 ((logOf m).length + 1 : Nat) := by
    refine ⟨(Int.tmod a1 ((logOf m).length + 1 : Nat)).toNat, ?_⟩
    rw [Int.tmod_eq_emod_of_nonneg ha.1]
    have := Int.emod_nonneg a1 (show (((logOf m).length + 1 : Nat) : Int) ≠ 0 by omega)
    omega
  have hal : a ≤ (logOf m).length := by
    rw [Int.tmod_eq_emod_of_nonneg ha.1] at hax
    have := Int.emod_lt_of_pos a1 (show (0 : Int) < ((logOf m).length + 1 : Nat) by omega)
    omega
  obtain ⟨j, j1, j2, j3, j4, j5, j6⟩ := readL_cut m a h2
  have hbt := bytesB_take hb a
  obtain ⟨i1, i2, i3, i4⟩ := readL_inv _ ((logOf m).take a) (Nat.le_refl _) hbt
  rw [List.length_take, show min a (logOf m).length = a by omega] at i4
  obtain ⟨K, hK⟩ : ∃ K : Nat, K = 100 := ⟨_, rfl⟩
  have hh : zigguratlaw30_head.f K = some true := by rw [hK]; exact head_true 98
  rw [← hK] at h1
  refine ⟨K, ?_⟩
  unfold zigguratlaw30_StoreCut.f
  rw [hh]
  rw [Option.bind_some]
  rw [show (12 : Int) = ((12 : Nat) : Int) from rfl, h1]
  rw [Option.bind_some]
  rw [written_is m h2 (by omega) (by omega) K (by omega)]
  rw [Option.bind_some, show ((logOf m, true) : List Int × Bool).1 = logOf m from rfl, show ((logOf m, true) : List Int × Bool).2 = true from rfl]
  rw [show wrap64 (((logOf m).length : Int) + 1) = (((logOf m).length + 1 : Nat) : Int) by unfold wrap64; omega, show wrap64 a1 = a1 by unfold wrap64; omega, if_neg (by omega), ← hax]
  rw [if_pos (by omega), if_pos (by omega), Int.toNat_natCast, read_is hbt (by rw [List.length_take]; omega)]
  rw [Option.bind_some]
  obtain ⟨R1, hR1⟩ : ∃ R1, R1 = (readL ((logOf m).take a)).1 := ⟨_, rfl⟩
  obtain ⟨R2, hR2⟩ : ∃ R2, R2 = (readL ((logOf m).take a)).2.1 := ⟨_, rfl⟩
  obtain ⟨R3, hR3⟩ : ∃ R3, R3 = (readL ((logOf m).take a)).2.2 := ⟨_, rfl⟩
  rw [← hR1, ← hR2, ← hR3]
  show zigguratlaw30_StoreCut.l0 K true m true (a : Int) R1 (R2 : Int) R3 0 = some true
  rw [hR1, hR2, hR3]
  rw [j4, j5]
  rw [j5] at i4
  have hlp := cut_loop m h2 (by omega) (by omega) a (m.take j) ((logOf (m.take j)).length : Int) (readL ((logOf m).take a)).2.2 j j1 j2 j (86 - j + 1) 0 (by omega) (by omega)
  rw [show 13 + (86 - j + 1) + j = K by omega] at hlp
  rw [show (0 : Int) = ((0 : Nat) : Int) from rfl, hlp, show 13 + (86 - j + 1) = 13 + (86 - j) + 1 by omega]
  exact cut_last m h2 (by omega) (by omega) a _ j (86 - j) j1 j2 j3 j6 i4
end Go.Proofs.YtkeegknadegaaaaDoor.Q
/-
  StoreCut: the row, of the function itself.
-/
namespace Go.Proofs.YtkeegknadegaaaaDoor.storeCut
open Go.ChangeShapes Go.WideShapes Go.ChangeAt Go.RowKit Go.Proofs.YtkeegknadegaaaaDoor.Q
open Go.ChangeMaps (open_string shut_string)
open Go.WideMaps (ArrKey open_pair shut_pair)
set_option linter.unusedVariables false
theorem own : ownKnob Tryd.prog.godebug = none := by kernel_rfl
theorem laidOut : laidOutB Tryd.prog = true := by kernel_rfl
set_option maxRecDepth 100000 in
theorem lifted (os : Os) (started : os.Started) (H : Type) (enc : TypeId × Value → H) :
    ReturnsInHanded {} Tryd.checked os 5 .any (fun w args => (Rows.storeCutSpec.pre enc Tryd.prog Tryd.f5 [] false w args ∧ laidMetH Tryd.prog Rows.storeCutRow.laid w) ∧ sizedMet enc Tryd.prog Tryd.f5 (OpenSpec.ofChange Rows.storeCutSpec) false w args)
      (Rows.storeCutSpec.post enc Tryd.prog Tryd.f5 false true false false) := by
  refine returnsInHanded_of_change_and (C := Tryd.checked) (X := fun w _ => laidMetH Tryd.prog Rows.storeCutRow.laid w) (fun _ _ _ hh h => h.of_heap hh) own started (by kernel_rfl) Tryd.func5
    (ChangeSpec.witness_at (enc := enc) (C := Tryd.checked) (os := os) (X := fun w _ => laidMetH Tryd.prog Rows.storeCutRow.laid w) false (laidWorld os) #[.slice none 0 0, .int .u16 0] 8 rfl (by kernel_rfl) (by kernel_rfl) (by kernel_rfl) (by kernel_rfl) (by kernel_rfl) (laidWorld_met os _)) ?_
  intro W base args ds gs before hval0 hW hcnd hsz0 hL _
  have hg := gok_of_laid hL
  have hsz : (DataW.weightsEach Tryd.prog (Tryd.f5.params.toList ++ Rows.storeCutSpec.plain.varTypes Tryd.prog) (ds ++ gs)).all (· ≤ reachBytes) = true := hsz0
  have hval : ∀ (j : Nat) t v, Tryd.f5.params[j]? = some t → args[j]? = some v → Value.okWide Tryd.prog W .any base t v := hval0
  have hW' := hW
  obtain ⟨p, q, hA0, hV, rfl, hfz, hnd⟩ := hW
  have hA : DataW.TrodAll enc Tryd.prog W 0 (fun _ => true) true Tryd.f5.params.toList args.toList ds p := hA0
  rw [Tryd.params5] at hA hval hsz
  obtain ⟨v0, vs0, d0, ds0, p0, q0, hargs, rfl, rfl, h0, r0⟩ := trodAll_cons hA
  obtain ⟨v1, vs1, d1, ds1, p1, q1, rfl, rfl, rfl, h1, r1⟩ := trodAll_cons r0
  obtain ⟨rfl, rfl, rfl⟩ := trodAll_nil r1
  obtain rfl : args = #[v0, v1] := by cases args; simp_all
  obtain ⟨rfl, rfl⟩ := trodVars_none hV
  obtain ⟨a0, len0, cap0, rfl⟩ := okWide_slice Tryd.underlying29 (hval 0 29 v0 rfl rfl)
  have k0 := h0
  have lt0 : ∀ x ∈ p0, x.block < W.heap.size := by obtain ⟨m, hm⟩ := k0; exact DataW.trod_lt m _ _ _ hm
  obtain ⟨l0, hr0, rfl, hc0⟩ : ∃ l0 : List S24, Go.Proofs.YtkeegknadegaaaaDoorW.PrintWords.Kd.C k24 W a0 len0 l0 ∧ l0.length = len0 ∧ len0 ≤ cap0 := by
    obtain ⟨fuel, hf⟩ := h0
    exact open_entries (by simpa [Value.cells] using hf)
  obtain ⟨a1, rfl, rfl, rfl, w1⟩ := open_int Tryd.underlying41 (hval 1 41 v1 rfl rfl) h1
  clear hA0 hval0 hsz0 hsz
  obtain ⟨k, h⟩ := (Q.cut_pure l0 a1 (by have e0 : IntKind.u16.min = 0 := rfl; have e1 : IntKind.u16.max = 65535 := rfl; simp [Lit.wf, e0, e1] at w1; omega))
  refine (Q.zigguratlaw30_StoreCut.calls k _ _ l0 a1 true W hr0 hc0 hg h).mono fun e W' ⟨he, bel⟩ => ?_
  subst he
  exact ⟨_, rfl, _, _, _, [], _, [], hW', trodAll_mk1 (shut_bool Tryd.underlying4 _), (trodAll_cons_mk (Below.trod laidOut (by kernel_rfl) (of_decide_eq_true (by kernel_rfl)) k0 bel lt0) (trodAll_cons_mk (shut_int Tryd.underlying41 w1) trodAll_mk0)), rfl, bel.frame _, fun h => by cases h⟩
theorem over : Rows.storeCutRow.holds Tryd.pinned (OpenSpec.ofChange Rows.storeCutSpec) :=
  OpenClaim.holds_of_wide 5 Tryd.f5 rfl rfl rfl rfl rfl rfl rfl ⟨rfl, rfl, rfl, rfl, rfl⟩ rfl rfl rfl rfl rfl (by kernel_rfl) Tryd.func5 (by kernel_rfl)
    (of_decide_eq_true (by kernel_rfl)) (by unfold Func.isWrapper; first | (rw [if_pos (by decide +kernel)]; kernel_rfl) | (rw [if_neg (by decide +kernel)]; exact ⟨rfl, rfl⟩))
    (fun os started H enc _ => lifted os started H enc)
end Go.Proofs.YtkeegknadegaaaaDoor.storeCut
namespace Go.Proofs.YtkeegknadegaaaaDoor
open Go
/-- The row, under a short name. -/
theorem storeCut_holds : Rows.StoreCutSaid := storeCut.over
end Go.Proofs.YtkeegknadegaaaaDoor
/-
  StoreCut: the tied card.
-/
namespace Go.Proofs.YtkeegknadegaaaaDoor
open Go
theorem storeCut_plainParams : ∀ t ∈ Tryd.f5.params.toList, Tryd.prog.wantsStandIn t = false := by
  rw [Tryd.params5]
  intro t ht
  simp only [List.mem_cons, List.not_mem_nil, or_false] at ht
  first
    | (rcases ht with rfl | rfl | rfl <;> kernel_rfl)
    | (rcases ht with rfl | rfl <;> kernel_rfl)
    | (subst ht; kernel_rfl)
theorem storeCut_card : Rows.StoreCutCardSaid :=
  Claim7.holds_tied_plain_at .later [] [.handle] true (true, "34bdef4e9bffb480d87468241b17d7559861034fec9fdb17c8b41cbaa0e36c65") true
    storeCut_holds (fun _ h => by cases h) (by kernel_rfl) (fun _ h => by cases h) storeCut_row_tie rfl ⟨rfl, rfl⟩ (by kernel_rfl) rfl
    (fun f fn hf hfn => by
      obtain rfl : f = 5 := Option.some.inj ((show Tryd.prog.funcNamed "ziggurat/zigguratlaw30.StoreCut" = some 5 by kernel_rfl).symm.trans hf) |>.symm
      obtain rfl : fn = Tryd.f5 := (Option.some.inj (Tryd.func5.symm.trans hfn)).symm
      exact ⟨by kernel_rfl, fun j t ht => storeCut_plainParams t (List.mem_of_getElem? (l := Tryd.f5.params.toList) (i := j) (by simpa using ht))⟩)
    (by kernel_rfl)
#print axioms storeCut_card
end Go.Proofs.YtkeegknadegaaaaDoor
