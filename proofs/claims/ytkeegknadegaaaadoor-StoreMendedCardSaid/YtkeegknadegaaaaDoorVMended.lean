/-
  StoreMended in plain words: what is mended is well, and tells the same entries; what is appended to it is told behind them; mended again it is the same.
-/
import Derived.Test.YtkeegknadegaaaaDoorQ25
import Derived.Test.YtkeegknadegaaaaDoorLHead
import Derived.Test.YtkeegknadegaaaaDoorLMade
import Derived.Test.YtkeegknadegaaaaDoorRows
import Derived.Test.YtkeegknadegaaaaDoorHLaid
import Derived.Test.YtkeegknadegaaaaDoorHRow24
import Derived.WalkKit
import Derived.ProofKit
import Derived.OpenShut
import Derived.ShutString
import Derived.ChangeOld
import Derived.Below
import Derived.SizedLaws
import Derived.WideKeyPair
import Derived.Test.YtkeegknadegaaaaDoorWSized
import Derived.Test.YtkeegknadegaaaaDoorTie
import Derived.Test.YtkeegknadegaaaaDoorCards
import Derived.SevenTiedAt
namespace Go.Proofs.YtkeegknadegaaaaDoor.Q
open Go.RowKit Go.Proofs.YtkeegknadegaaaaDoor.S Go.Proofs.YtkeegknadegaaaaDoorW.PrintWords Go.Proofs.YtkeegknadegaaaaDoorW.PrintLast Go.Proofs.YtkeegknadegaaaaDoorW.PrintMore
set_option linter.unusedVariables false

theorem made_some (e : S24) (k : Nat) : ∃ m0 : S24, zigguratref30_Made.f (k + 4) [e] 1 = some [m0] := by
  have e0 : rd_T24 [e] 0 = e := rfl
  have hmt : mn (e.f1.size : Int) 200 = ((min e.f1.size 200 : Nat) : Int) := by unfold mn; split <;> omega
  have hmn : mn (e.f0.size : Int) 20 = ((min e.f0.size 20 : Nat) : Int) := by unfold mn; split <;> omega
  have hm1 : mn 1 20 = 1 := by unfold mn; decide
  have hl : ((([e] : List S24).length : Nat) : Int) = 1 := rfl
  have hw : wrap64 (0 + 1) = 1 := by unfold wrap64; omega
  have hd : decide ((0 : Int) < 1) = true := by decide
  have hz : (([] : List S24).length) < 4398046511104 := by decide
  unfold zigguratref30_Made.f
  by_cases hs : (e.f0.size : Int) = 0
  · refine ⟨⟨(⟨#[120]⟩ : ByteArray).extract 0 ((1 : Int)).toNat, e.f1.extract 0 (((min e.f1.size 200 : Nat) : Int)).toNat⟩, ?_⟩
    rw [zigguratref30_Made.l0, hl, if_pos (by decide), hd, zigguratref30_Made.j1, if_pos rfl, if_pos (by decide), hl, if_pos (by decide), e0, if_pos hs, hm1, hmt]
    rw [if_pos (by omega), if_pos (by omega), if_pos (by omega), if_pos (by omega), if_pos hz, hw, zigguratref30_Made.l0, hl, if_neg (by decide), zigguratref30_Made.j1, if_neg (by decide)]
    rfl
  · refine ⟨⟨e.f0.extract 0 (((min e.f0.size 20 : Nat) : Int)).toNat, e.f1.extract 0 (((min e.f1.size 200 : Nat) : Int)).toNat⟩, ?_⟩
    rw [zigguratref30_Made.l0, hl, if_pos (by decide), hd, zigguratref30_Made.j1, if_pos rfl, if_pos (by decide), hl, if_pos (by decide), e0, if_neg hs, hmn, hmt]
    rw [if_pos (by omega), if_pos (by omega), if_pos (by omega), if_pos (by omega), if_pos hz, hw, zigguratref30_Made.l0, hl, if_neg (by decide), zigguratref30_Made.j1, if_neg (by decide)]
    rfl
theorem made_one (e : S24) (k : Nat) (hk : 4 < k) : ∃ m0 : S24, zigguratref30_Made.f k [e] 1 = some [m0] ∧ mayB m0.f0 m0.f1 = true ∧ m0.f0.size + m0.f1.size ≤ 220 := by
  obtain ⟨k, rfl⟩ : ∃ k', k = k' + 4 := ⟨k - 4, by omega⟩
  obtain ⟨m0, h0⟩ := made_some e k
  obtain ⟨r, h1, h2, h3, h4⟩ := made_is [e] 1 (by omega) (k + 4) (by omega)
  rw [show ((1 : Nat) : Int) = 1 from rfl, h0] at h1
  cases h1
  exact ⟨m0, h0, h2 m0 (by simp), h3 m0 (by simp)⟩
theorem mended_pure (l0 : List Int) (s0 s1 : ByteArray) (hb : bytesB l0 = true) : zigguratlaw30_StoreMended.f 1000 l0 s0 s1 = some true := by
  unfold zigguratlaw30_StoreMended.f
  rw [head_true 998]
  simp only [Option.bind_some]
  by_cases hl : (l0.length : Int) > 3000
  · rw [if_pos hl]
  rw [if_neg hl]
  obtain ⟨m0, h1, h2, h3⟩ := made_one ⟨s0, s1⟩ 1000 (by omega)
  obtain ⟨i1, i2, i3, i4⟩ := readL_inv l0.length l0 (Nat.le_refl _) hb
  have hxl := log_len (readL l0).1 i1
  obtain ⟨x, hx⟩ : ∃ x, x = (readL l0).1 := ⟨_, rfl⟩
  obtain ⟨n, hn⟩ : ∃ n, n = (readL l0).2.1 := ⟨_, rfl⟩
  obtain ⟨c, hc⟩ : ∃ c, c = (readL l0).2.2 := ⟨_, rfl⟩
  have hr := read_is hb (by omega : l0.length ≤ 100000000000)
  have hp := repair_is hb (by omega : l0.length ≤ 100000000000)
  rw [← hx, ← hn, ← hc] at hr
  rw [← hn] at hp
  rw [← hx, ← hn] at i2
  rw [← hx] at i1 hxl
  rw [← hn] at i3
  rw [← i2] at hp
  have hll : (logOf x).length = n := by rw [i2, List.length_take]; omega
  have hbx := logOf_bytes x i1
  have hrec := recOf_length m0.f0 m0.f1
  have hbr : bytesB (recOf m0.f0 m0.f1) = true := recOf_range _ _ (by have := mayB_iff.1 h2; omega)
  have hr1 : readL (recOf m0.f0 m0.f1) = ([m0], (recOf m0.f0 m0.f1).length, 0) := by
    have := readL_rec m0.f0 m0.f1 [] h2
    rw [List.append_nil, readL_nil] at this
    exact this
  have hr2 := readL_log x (recOf m0.f0 m0.f1) i1
  rw [hr1] at hr2
  rw [h1]
  simp only [Option.bind_some]
  rw [hr]
  simp only [Option.bind_some]
  rw [hp]
  simp only [Option.bind_some]
  rw [read_is hbx (by omega), readL_whole x i1]
  simp only [Option.bind_some]
  rw [if_pos (by simp), show rd_T24 [m0] 0 = m0 from rfl, append_is h2 (by omega)]
  simp only [Option.bind_some]
  rw [read_is (by rw [bytesB_append, hbx, hbr]; rfl) (by rw [List.length_append]; omega), hr2]
  simp only [Option.bind_some, List.nil_append, List.length_nil]
  rw [if_pos (by omega), if_pos (by omega), if_pos trivial, if_pos (by omega), if_pos (by omega), if_pos trivial, same_self x 1000 (by omega) (by omega)]
  simp only [Option.bind_some]
  rw [if_pos trivial, if_pos trivial, if_pos trivial]
  rw [show ([(⟨m0.f0, m0.f1⟩ : S24)]) = [m0] from rfl, same_self _ 1000 (by rw [List.length_append, List.length_singleton]; omega) (by rw [List.length_append, List.length_singleton]; omega)]
  simp only [Option.bind_some]
  rw [if_pos trivial, repair_is hbx (by omega), readL_whole x i1]
  simp
end Go.Proofs.YtkeegknadegaaaaDoor.Q
/-
  StoreMended: the row, of the function itself.
-/
namespace Go.Proofs.YtkeegknadegaaaaDoor.storeMended
open Go.ChangeShapes Go.WideShapes Go.ChangeAt Go.RowKit Go.Proofs.YtkeegknadegaaaaDoor.Q
open Go.ChangeMaps (open_string shut_string)
open Go.WideMaps (ArrKey open_pair shut_pair)
set_option linter.unusedVariables false
theorem own : ownKnob Tryd.prog.godebug = none := by kernel_rfl
theorem laidOut : laidOutB Tryd.prog = true := by kernel_rfl
def IsRow (k : IntKind) (w : World) (a : Option Addr) (len cap : Nat) (zs : List Int) : Prop :=
  (a = none ∧ len = 0 ∧ cap = 0 ∧ zs = []) ∨
  ∃ x, a = some x ∧ len ≤ cap ∧ cap ≤ maxLen ∧ zs.length = cap ∧ (∀ i, i < zs.length → w.cell? (x.add i) = some (.int k (zs.getD i 0))) ∧ ∀ n ∈ zs, (Lit.int k n).wf = true
set_option maxRecDepth 100000 in
theorem lifted (os : Os) (started : os.Started) (H : Type) (enc : TypeId × Value → H) :
    ReturnsInHanded {} Tryd.checked os 8 .any (fun w args => (Rows.storeMendedSpec.pre enc Tryd.prog Tryd.f8 [] false w args ∧ laidMetH Tryd.prog Rows.storeMendedRow.laid w) ∧ sizedMet enc Tryd.prog Tryd.f8 (OpenSpec.ofChange Rows.storeMendedSpec) false w args)
      (Rows.storeMendedSpec.post enc Tryd.prog Tryd.f8 false true false false) := by
  refine returnsInHanded_of_change_and (C := Tryd.checked) (X := fun w _ => laidMetH Tryd.prog Rows.storeMendedRow.laid w) (fun _ _ _ hh h => h.of_heap hh) own started (by kernel_rfl) Tryd.func8
    (ChangeSpec.witness_at (enc := enc) (C := Tryd.checked) (os := os) (X := fun w _ => laidMetH Tryd.prog Rows.storeMendedRow.laid w) false (laidWorld os) #[.slice none 0 0, .agg #[.string ⟨#[]⟩, .string ⟨#[]⟩]] 8 rfl (by kernel_rfl) (by kernel_rfl) (by kernel_rfl) (by kernel_rfl) (by kernel_rfl) (laidWorld_met os _)) ?_
  intro W base args ds gs before hval0 hW hcnd hsz0 hL _
  have hg := gok_of_laid hL
  have hsz : (DataW.weightsEach Tryd.prog (Tryd.f8.params.toList ++ Rows.storeMendedSpec.plain.varTypes Tryd.prog) (ds ++ gs)).all (· ≤ reachBytes) = true := hsz0
  have hval : ∀ (j : Nat) t v, Tryd.f8.params[j]? = some t → args[j]? = some v → Value.okWide Tryd.prog W .any base t v := hval0
  have hW' := hW
  obtain ⟨p, q, hA0, hV, rfl, hfz, hnd⟩ := hW
  have hA : DataW.TrodAll enc Tryd.prog W 0 (fun _ => true) true Tryd.f8.params.toList args.toList ds p := hA0
  rw [Tryd.params8] at hA hval hsz
  obtain ⟨v0, vs0, d0, ds0, p0, q0, hargs, rfl, rfl, h0, r0⟩ := trodAll_cons hA
  obtain ⟨v1, vs1, d1, ds1, p1, q1, rfl, rfl, rfl, h1, r1⟩ := trodAll_cons r0
  obtain ⟨rfl, rfl, rfl⟩ := trodAll_nil r1
  obtain rfl : args = #[v0, v1] := by cases args; simp_all
  obtain ⟨rfl, rfl⟩ := trodVars_none hV
  obtain ⟨a0, len0, cap0, rfl⟩ := okWide_slice Tryd.underlying22 (hval 0 22 v0 rfl rfl)
  have k0 := h0
  have lt0 : ∀ x ∈ p0, x.block < W.heap.size := by obtain ⟨m, hm⟩ := k0; exact DataW.trod_lt m _ _ _ hm
  obtain ⟨z0, w0⟩ : ∃ zs, IsRow .u8 W a0 len0 cap0 zs := by
    obtain ⟨fuel, hf⟩ := h0
    rcases open_ints Tryd.underlying22 Tryd.underlying5 (by kernel_rfl) hf with ⟨hcs, _⟩ | ⟨x, l, c, zs, hcs, _, hl, hm, hz, _, hcell, hwz⟩
    · simp [Value.cells] at hcs
      obtain ⟨rfl, rfl, rfl⟩ := hcs
      exact ⟨[], .inl ⟨rfl, rfl, rfl, rfl⟩⟩
    · simp [Value.cells] at hcs
      obtain ⟨rfl, rfl, rfl⟩ := hcs
      exact ⟨zs, .inr ⟨_, rfl, hl, hm, by simpa using hz, hcell, hwz⟩⟩
  have y0 : len0 * 1 ≤ 140737488351232 := Go.Proofs.YtkeegknadegaaaaDoorW.PrintWords.sized_ints hsz (j := 0) (t := 22) rfl rfl Tryd.underlying22 Tryd.underlying5 (by kernel_rfl) (by kernel_rfl) h0
  obtain ⟨l0, rfl, hr0, hm0, hw0, hc0⟩ := Go.Proofs.YtkeegknadegaaaaDoorW.PrintWords.ReadsInt.ofRowC w0
  have k1 := h1
  have lt1 : ∀ x ∈ p1, x.block < W.heap.size := by obtain ⟨m, hm⟩ := k1; exact DataW.trod_lt m _ _ _ hm
  obtain ⟨s1_0, s1_1, rfl, hs1_0, hs1_1⟩ := open_entry (hval 1 24 v1 rfl rfl) h1
  clear hA0 hval0 hsz0 hsz
  obtain ⟨k, h⟩ := (⟨1000, Q.mended_pure l0 s1_0 s1_1 (Q.bytesB_of hw0)⟩ : ∃ k, Q.zigguratlaw30_StoreMended.f k l0 s1_0 s1_1 = some true)
  refine (Q.zigguratlaw30_StoreMended.calls k _ _ l0 s1_0 s1_1 true W (Go.Proofs.YtkeegknadegaaaaDoorW.PrintWords.Kd.C_of_reads (d := (0 : Int)) (h1 := fun _ => rfl) hr0) hc0 hg h).mono fun e W' ⟨he, bel⟩ => ?_
  subst he
  exact ⟨_, rfl, _, _, _, [], _, [], hW', trodAll_mk1 (shut_bool Tryd.underlying4 _), (trodAll_cons_mk (Below.trod laidOut (by kernel_rfl) (of_decide_eq_true (by kernel_rfl)) k0 bel lt0) (trodAll_cons_mk (Below.trod laidOut (by kernel_rfl) (of_decide_eq_true (by kernel_rfl)) k1 bel lt1) trodAll_mk0)), rfl, bel.frame _, fun h => by cases h⟩
theorem over : Rows.storeMendedRow.holds Tryd.pinned (OpenSpec.ofChange Rows.storeMendedSpec) :=
  OpenClaim.holds_of_wide 8 Tryd.f8 rfl rfl rfl rfl rfl rfl rfl ⟨rfl, rfl, rfl, rfl, rfl⟩ rfl rfl rfl rfl rfl (by kernel_rfl) Tryd.func8 (by kernel_rfl)
    (of_decide_eq_true (by kernel_rfl)) (by unfold Func.isWrapper; first | (rw [if_pos (by decide +kernel)]; kernel_rfl) | (rw [if_neg (by decide +kernel)]; exact ⟨rfl, rfl⟩))
    (fun os started H enc _ => lifted os started H enc)
end Go.Proofs.YtkeegknadegaaaaDoor.storeMended
namespace Go.Proofs.YtkeegknadegaaaaDoor
open Go
/-- The row, under a short name. -/
theorem storeMended_holds : Rows.StoreMendedSaid := storeMended.over
end Go.Proofs.YtkeegknadegaaaaDoor
/-
  StoreMended: the tied card.
-/
namespace Go.Proofs.YtkeegknadegaaaaDoor
open Go
theorem storeMended_plainParams : ∀ t ∈ Tryd.f8.params.toList, Tryd.prog.wantsStandIn t = false := by
  rw [Tryd.params8]
  intro t ht
  simp only [List.mem_cons, List.not_mem_nil, or_false] at ht
  first
    | (rcases ht with rfl | rfl | rfl <;> kernel_rfl)
    | (rcases ht with rfl | rfl <;> kernel_rfl)
    | (subst ht; kernel_rfl)
theorem storeMended_card : Rows.StoreMendedCardSaid :=
  Claim7.holds_tied_plain_at .later [] [.handle] true (true, "34bdef4e9bffb480d87468241b17d7559861034fec9fdb17c8b41cbaa0e36c65") true
    storeMended_holds (fun _ h => by cases h) (by kernel_rfl) (fun _ h => by cases h) storeMended_row_tie rfl ⟨rfl, rfl⟩ (by kernel_rfl) rfl
    (fun f fn hf hfn => by
      obtain rfl : f = 8 := Option.some.inj ((show Tryd.prog.funcNamed "ziggurat/zigguratlaw30.StoreMended" = some 8 by kernel_rfl).symm.trans hf) |>.symm
      obtain rfl : fn = Tryd.f8 := (Option.some.inj (Tryd.func8.symm.trans hfn)).symm
      exact ⟨by kernel_rfl, fun j t ht => storeMended_plainParams t (List.mem_of_getElem? (l := Tryd.f8.params.toList) (i := j) (by simpa using ht))⟩)
    (by kernel_rfl)
#print axioms storeMended_card
end Go.Proofs.YtkeegknadegaaaaDoor
