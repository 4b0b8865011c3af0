/-
  StoreCanonical in plain words: what is told of whatever bytes, written anew, is just what was read.
-/
import Derived.Test.YtkeegknadegaaaaDoorQ24
import Derived.Test.YtkeegknadegaaaaDoorLHead
import Derived.Test.YtkeegknadegaaaaDoorLMade
import Derived.Test.YtkeegknadegaaaaDoorRows
import Derived.Test.YtkeegknadegaaaaDoorHLaid
import Derived.WalkKit
import Derived.ProofKit
import Derived.OpenShut
import Derived.ShutString
import Derived.ChangeOld
import Derived.Below
import Derived.SizedLaws
import Derived.Test.YtkeegknadegaaaaDoorWSized
import Derived.Test.YtkeegknadegaaaaDoorTie
import Derived.Test.YtkeegknadegaaaaDoorCards
import Derived.SevenTiedAt
namespace Go.Proofs.YtkeegknadegaaaaDoor.Q
open Go.RowKit Go.Proofs.YtkeegknadegaaaaDoor.S Go.Proofs.YtkeegknadegaaaaDoorW.PrintWords Go.Proofs.YtkeegknadegaaaaDoorW.PrintLast Go.Proofs.YtkeegknadegaaaaDoorW.PrintMore
set_option linter.unusedVariables false

theorem May_is {e : S24} (h : mayB e.f0 e.f1 = true) : zigguratref30_May.f e.f0 e.f1 = some true := by
  have := mayB_iff.1 h
  unfold zigguratref30_May.f
  rw [if_pos (by omega), if_pos (by omega)]
  simp only [Option.some.injEq, decide_eq_true_eq]
  omega
theorem logOf_len (es : List S24) (h : mayAll es) : 10 * es.length ≤ (logOf es).length := by
  induction es with
  | nil => simp [logOf]
  | cons e es ih =>
    have h1 := ih (fun x hx => h x (by simp [hx]))
    have h2 := mayB_iff.1 (h e (by simp))
    rw [logOf_cons, List.length_append, recOf_length, List.length_cons]
    omega
theorem canonical_loop (l0 : List Int) (x : List S24) (n : Int) (hm : mayAll x) (hx : x.length < 4611686018427387904) : ∀ (d k i : Nat), x.length - i = d → i ≤ x.length →
    zigguratlaw30_StoreCanonical.l0 (k + d) l0 true x n (i : Int) = zigguratlaw30_StoreCanonical.l0 k l0 true x n (x.length : Int) := by
  intro d
  induction d with
  | zero =>
    intro k i hd hi
    obtain rfl : i = x.length := by omega
    rfl
  | succ d ih =>
    intro k i hd hi
    have h0 : i < x.length := by omega
    rw [show k + (d + 1) = (k + d) + 1 by omega, zigguratlaw30_StoreCanonical.l0]
    have e0 : rd_T24 x (i : Int) = x[i] := by simp [rd_T24, List.getD, h0]
    rw [if_pos (by omega), if_pos (by omega), e0, May_is (hm _ (List.getElem_mem h0))]
    simp only [Option.bind_some]
    rw [if_pos trivial, show wrap64 ((i : Int) + 1) = ((i + 1 : Nat) : Int) by unfold wrap64; omega]
    exact ih k (i + 1) (by omega) (by omega)
theorem canonical_pure (l0 : List Int) (hb : bytesB l0 = true) : ∃ k, zigguratlaw30_StoreCanonical.f k l0 = some true := by
  by_cases h1 : (l0.length : Int) > 3000
  · refine ⟨2, ?_⟩
    unfold zigguratlaw30_StoreCanonical.f
    rw [head_true 0]
    simp only [Option.bind_some]
    rw [if_pos h1]
  have hl : l0.length ≤ 3000 := by omega
  obtain ⟨i1, i2, i3, i4⟩ := readL_inv l0.length l0 (Nat.le_refl _) hb
  obtain ⟨x, hx⟩ : ∃ x, x = (readL l0).1 := ⟨_, rfl⟩
  obtain ⟨n, hn⟩ : ∃ n, n = (readL l0).2.1 := ⟨_, rfl⟩
  obtain ⟨c, hc⟩ : ∃ c, c = (readL l0).2.2 := ⟨_, rfl⟩
  have hr := read_is hb (by omega : l0.length ≤ 100000000000)
  rw [← hx, ← hn, ← hc] at hr
  rw [← hx] at i1
  rw [← hx, ← hn] at i2
  rw [← hn] at i3
  rw [← hn, ← hc] at i4
  have hlen := logOf_len x i1
  have htl : (l0.take n).length = n := by rw [List.length_take]; omega
  have hxl : x.length ≤ 300 := by rw [i2, htl] at hlen; omega
  refine ⟨(300 + 1 + (300 - x.length)) + 1 + x.length, ?_⟩
  unfold zigguratlaw30_StoreCanonical.f
  rw [show 300 + 1 + (300 - x.length) + 1 + x.length = (600 + 0) + 2 by omega, head_true]
  simp only [Option.bind_some]
  rw [if_neg h1, hr]
  simp only [Option.bind_some]
  rw [if_neg (by omega), if_neg (by omega)]
  have e1 : ((c == 0) != ((n : Int) == (l0.length : Int))) = false := by
    by_cases h : c = 0
    · have : n = l0.length := i4.1 h
      subst this
      simp [h]
    · have : ¬ n = l0.length := fun e => h (i4.2 e)
      have h2 : ¬ ((n : Int) = (l0.length : Int)) := by omega
      rw [beq_eq_false_iff_ne.2 h, beq_eq_false_iff_ne.2 h2]
      rfl
  rw [e1, if_neg (by decide)]
  have hlp := canonical_loop l0 x (n : Int) i1 (by omega) x.length (300 + 1 + (300 - x.length) + 1) 0 (by omega) (by omega)
  rw [show 600 + 0 + 2 = 300 + 1 + (300 - x.length) + 1 + x.length by omega, show (0 : Int) = ((0 : Nat) : Int) from rfl, hlp, zigguratlaw30_StoreCanonical.l0]
  rw [if_neg (by omega), written_is x i1 (by rw [i2, htl]; omega) (by omega) _ (by omega)]
  simp only [Option.bind_some]
  rw [if_pos trivial, if_pos trivial, if_pos (by omega), if_pos (by omega), Int.toNat_natCast, i2]
  simp
end Go.Proofs.YtkeegknadegaaaaDoor.Q
namespace Go.Proofs.YtkeegknadegaaaaDoor.storeCanonical
open Go.RowKit Go.Proofs.YtkeegknadegaaaaDoor.Q
theorem pure : zigguratlaw30_StoreCanonical.Pure := fun l0 _ _ h0 => canonical_pure l0 (bytesB_of h0)
end Go.Proofs.YtkeegknadegaaaaDoor.storeCanonical
namespace Go.Proofs.YtkeegknadegaaaaDoor.storeCanonical
open Go.ChangeShapes Go.WideShapes Go.ChangeAt Go.RowKit
open Go.ChangeMaps (open_string shut_string)
set_option linter.unusedVariables false
theorem own : ownKnob Tryd.prog.godebug = none := by kernel_rfl
theorem laidOut : laidOutB Tryd.prog = true := by kernel_rfl
def IsRow (k : IntKind) (w : World) (a : Option Addr) (len cap : Nat) (zs : List Int) : Prop :=
  (a = none ∧ len = 0 ∧ cap = 0 ∧ zs = []) ∨
  ∃ x, a = some x ∧ len ≤ cap ∧ cap ≤ maxLen ∧ zs.length = cap ∧ (∀ i, i < zs.length → w.cell? (x.add i) = some (.int k (zs.getD i 0))) ∧ ∀ n ∈ zs, (Lit.int k n).wf = true
set_option maxRecDepth 100000 in
theorem lifted (os : Os) (started : os.Started) (H : Type) (enc : TypeId × Value → H) :
    ReturnsInHanded {} Tryd.checked os 7 .any (fun w args => (Rows.storeCanonicalSpec.pre enc Tryd.prog Tryd.f7 [] false w args ∧ laidMetH Tryd.prog Rows.storeCanonicalRow.laid w) ∧ sizedMet enc Tryd.prog Tryd.f7 (OpenSpec.ofChange Rows.storeCanonicalSpec) false w args)
      (Rows.storeCanonicalSpec.post enc Tryd.prog Tryd.f7 false true false false) := by
  refine returnsInHanded_of_change_and (C := Tryd.checked) (X := fun w _ => laidMetH Tryd.prog Rows.storeCanonicalRow.laid w) (fun _ _ _ hh h => h.of_heap hh) own started (by kernel_rfl) Tryd.func7
    (ChangeSpec.witness_at (enc := enc) (C := Tryd.checked) (os := os) (X := fun w _ => laidMetH Tryd.prog Rows.storeCanonicalRow.laid w) false (laidWorld os) #[.slice none 0 0] 8 rfl (by kernel_rfl) (by kernel_rfl) (by kernel_rfl) (by kernel_rfl) (by kernel_rfl) (laidWorld_met os _)) ?_
  intro W base args ds gs before hval0 hW hcnd hsz0 hL _
  have hg := gok_of_laid hL
  have hsz : (DataW.weightsEach Tryd.prog (Tryd.f7.params.toList ++ Rows.storeCanonicalSpec.plain.varTypes Tryd.prog) (ds ++ gs)).all (· ≤ reachBytes) = true := hsz0
  have hval : ∀ (j : Nat) t v, Tryd.f7.params[j]? = some t → args[j]? = some v → Value.okWide Tryd.prog W .any base t v := hval0
  have hW' := hW
  obtain ⟨p, q, hA0, hV, rfl, hfz, hnd⟩ := hW
  have hA : DataW.TrodAll enc Tryd.prog W 0 (fun _ => true) true Tryd.f7.params.toList args.toList ds p := hA0
  rw [Tryd.params7] at hA hval hsz
  obtain ⟨v0, vs0, d0, ds0, p0, q0, hargs, rfl, rfl, h0, r0⟩ := trodAll_cons hA
  obtain ⟨rfl, rfl, rfl⟩ := trodAll_nil r0
  obtain rfl : args = #[v0] := by cases args; simp_all
  obtain ⟨rfl, rfl⟩ := trodVars_none hV
  obtain ⟨a0, len0, cap0, rfl⟩ := okWide_slice Tryd.underlying22 (hval 0 22 v0 rfl rfl)
  have k0 := h0
  have lt0 : ∀ x ∈ p0, x.block < W.heap.size := by obtain ⟨m, hm⟩ := k0; exact DataW.trod_lt m _ _ _ hm
  obtain ⟨z0, w0⟩ : ∃ zs, IsRow .u8 W a0 len0 cap0 zs := by
    obtain ⟨fuel, hf⟩ := h0
    rcases open_ints Tryd.underlying22 Tryd.underlying5 (by kernel_rfl) hf with ⟨hcs, _⟩ | ⟨x, l, c, zs, hcs, _, hl, hm, hz, _, hcell, hwz⟩
    · simp [Value.cells] at hcs
      obtain ⟨rfl, rfl, rfl⟩ := hcs
      exact ⟨[], .inl ⟨rfl, rfl, rfl, rfl⟩⟩
    · simp [Value.cells] at hcs
      obtain ⟨rfl, rfl, rfl⟩ := hcs
      exact ⟨zs, .inr ⟨_, rfl, hl, hm, by simpa using hz, hcell, hwz⟩⟩
  have y0 : len0 * 1 ≤ 140737488351232 := Go.Proofs.YtkeegknadegaaaaDoorW.PrintWords.sized_ints hsz (j := 0) (t := 22) rfl rfl Tryd.underlying22 Tryd.underlying5 (by kernel_rfl) (by kernel_rfl) h0
  clear hA0 hval0 hsz0 hsz
  refine (Q.zigguratlaw30_StoreCanonical.walk pure a0 len0 cap0 z0 W hg w0 y0).mono fun e W' ⟨he, bel⟩ => ?_
  subst he
  exact ⟨_, rfl, _, _, _, [], _, [], hW', trodAll_mk1 (shut_bool Tryd.underlying4 _), (trodAll_cons_mk (Below.trod laidOut (by kernel_rfl) (of_decide_eq_true (by kernel_rfl)) k0 bel lt0) trodAll_mk0), rfl, bel.frame _, fun h => by cases h⟩
theorem over : Rows.storeCanonicalRow.holds Tryd.pinned (OpenSpec.ofChange Rows.storeCanonicalSpec) :=
  OpenClaim.holds_of_wide 7 Tryd.f7 rfl rfl rfl rfl rfl rfl rfl ⟨rfl, rfl, rfl, rfl, rfl⟩ rfl rfl rfl rfl rfl (by kernel_rfl) Tryd.func7 (by kernel_rfl)
    (of_decide_eq_true (by kernel_rfl)) (by unfold Func.isWrapper; first | (rw [if_pos (by decide +kernel)]; kernel_rfl) | (rw [if_neg (by decide +kernel)]; exact ⟨rfl, rfl⟩))
    (fun os started H enc _ => lifted os started H enc)
end Go.Proofs.YtkeegknadegaaaaDoor.storeCanonical
namespace Go.Proofs.YtkeegknadegaaaaDoor
open Go
/-- The row, under a short name. -/
theorem storeCanonical_holds : Rows.StoreCanonicalSaid := storeCanonical.over
end Go.Proofs.YtkeegknadegaaaaDoor
/-
  StoreCanonical: the tied card.
-/
namespace Go.Proofs.YtkeegknadegaaaaDoor
open Go
theorem storeCanonical_plainParams : ∀ t ∈ Tryd.f7.params.toList, Tryd.prog.wantsStandIn t = false := by
  rw [Tryd.params7]
  intro t ht
  simp only [List.mem_cons, List.not_mem_nil, or_false] at ht
  first
    | (rcases ht with rfl | rfl | rfl <;> kernel_rfl)
    | (rcases ht with rfl | rfl <;> kernel_rfl)
    | (subst ht; kernel_rfl)
theorem storeCanonical_card : Rows.StoreCanonicalCardSaid :=
  Claim7.holds_tied_plain_at .later [] [.handle] true (true, "34bdef4e9bffb480d87468241b17d7559861034fec9fdb17c8b41cbaa0e36c65") true
    storeCanonical_holds (fun _ h => by cases h) (by kernel_rfl) (fun _ h => by cases h) storeCanonical_row_tie rfl ⟨rfl, rfl⟩ (by kernel_rfl) rfl
    (fun f fn hf hfn => by
      obtain rfl : f = 7 := Option.some.inj ((show Tryd.prog.funcNamed "ziggurat/zigguratlaw30.StoreCanonical" = some 7 by kernel_rfl).symm.trans hf) |>.symm
      obtain rfl : fn = Tryd.f7 := (Option.some.inj (Tryd.func7.symm.trans hfn)).symm
      exact ⟨by kernel_rfl, fun j t ht => storeCanonical_plainParams t (List.mem_of_getElem? (l := Tryd.f7.params.toList) (i := j) (by simpa using ht))⟩)
    (by kernel_rfl)
#print axioms storeCanonical_card
end Go.Proofs.YtkeegknadegaaaaDoor
