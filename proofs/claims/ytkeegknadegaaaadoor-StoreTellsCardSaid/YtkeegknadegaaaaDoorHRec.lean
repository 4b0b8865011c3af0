/-
  store.records, by hand: the closure calls yield once for each record that is well, and then once with what is wrong, if anything is.
-/
import Derived.Test.YtkeegknadegaaaaDoorHEnt
import Derived.RangeFuncBox
import Derived.RangeFuncLeaves
import Derived.RangeFuncCalls
import Derived.RangeFuncNested
import Derived.Shelf.Abstract
import Derived.Shelf.RegionOpen
import Derived.OwnWalkIn
import Derived.TacticsInMore
import Derived.LoopNIn
import Derived.LoopIn
import Derived.Laws.EntriesVeiled
namespace Go.Proofs.YtkeegknadegaaaaDoor.Q
open Go.RowKit Go.Shelf Go.Proofs.YtkeegknadegaaaaDoor.S Go.Proofs.YtkeegknadegaaaaDoorW.PrintWords Go.Proofs.YtkeegknadegaaaaDoorW.PrintLast Go.Proofs.YtkeegknadegaaaaDoorW.PrintMore
set_option linter.unusedVariables false
set_option linter.unusedSimpArgs false
attribute [local go_sem] Oper.semAt_some

def encG (g : RecG) : Array Value := #[.agg #[.string g.1, .string g.2.1, .int .i64 (g.2.2 : Int)], .nilIface]
def encB (p B : Nat) : Array Value := #[.agg #[.string ⟨#[]⟩, .string ⟨#[]⟩, .int .i64 (p : Int)], .iface 59 (.pointer (some ⟨B, 0, none⟩))]
/-- What a round keeps: all below n₀, and the log's box. -/
def KeepR (n₀ Bn : Nat) (W W' : World) : Prop := Below n₀ W W' ∧ Bn < W.heap.size ∧ W'.heap[Bn]? = W.heap[Bn]?
theorem KeepR.trans {n₀ Bn : Nat} {A B C : World} (h : KeepR n₀ Bn A B) (k : KeepR n₀ Bn B C) : KeepR n₀ Bn A C := ⟨h.1.trans k.1, h.2.1, k.2.2.trans h.2.2⟩
theorem grown_of_below {W W' : World} (h : Below W.heap.size W W') : W.grownBy W' none := ⟨h.os, h.tape, h.output, h.size, fun k hk _ => h.block k hk⟩

def EntHid (x : Ent) (w : World) (e : Ending) (w' : World) : Prop := EntPost x w e w'

set_option maxHeartbeats 8000000 in
set_option maxRecDepth 100000 in
theorem recs_in (l Bn n₀ : Nat) (A0 : Option Addr) (c0 : Nat) (l0 : List Int) (J : List RecG → World → Prop) (Jx : Int → World → Prop) (W : World)
    (hJ : ∀ xs X Y, J xs X → X.grownBy Y none → J xs Y)
    (hG : ∀ pre g X, J pre X → pre.length < (scan (l0.length + 1) l0 0).1.length → YieldAt Fence.wide 2 Tryd.prog l (encG g) X fun e X' => e = .returned (.bool true) ∧ J (pre ++ [g]) X' ∧ KeepR n₀ Bn X X')
    (hX : ∀ p B c X, J (scan (l0.length + 1) l0 0).1 X → c = (scan (l0.length + 1) l0 0).2 → X.heap[B]? = some (.cells #[.int .i64 c] 63 (0, 0)) → YieldAt Fence.wide 2 Tryd.prog l (encB p B) X fun e X' => e = .returned (.bool false) ∧ Jx c X')
    (hbox : W.heap[Bn]? = some (.cells #[.slice A0 l0.length c0] 22 (0, 0)))
    (w0 : World) (hr0 : Kd.C (Kd.int .u8) w0 A0 l0.length l0) (hc0 : l0.length ≤ c0) (hb : bytesB l0 = true) (hw0 : w0.heap.size ≤ n₀) (hn0 : n₀ ≤ W.heap.size) (hbW : Below w0.heap.size w0 W) (h0 : J [] W) :
    CallsIn Fence.wide 3 Tryd.prog 31 #[.func (.yield l) #[] #[], .pointer (some ⟨Bn, 0, none⟩)] W fun e W' => (∃ v, e = .returned v) ∧
      (((scan (l0.length + 1) l0 0).2 = 0 ∧ J (scan (l0.length + 1) l0 0).1 W') ∨ ((scan (l0.length + 1) l0 0).2 ≠ 0 ∧ Jx (scan (l0.length + 1) l0 0).2 W')) := by
  have hmx : l0.length ≤ 9223372036854775807 := hr0.2.1
  have HJ := Aside0.mk hJ
  have HG := Aside0.mk hG
  have HX := Aside0.mk hX
  have HR0 := Aside0.mk hr0
  have HC0 := Aside0.mk hc0
  have HBY := Aside0.mk hb
  have HBX := Aside0.mk hbox
  have HBW := Aside0.mk hbW
  have HW0 := Aside0.mk hw0
  have HJ0 := Aside0.mk h0
  have HN0 := Aside0.mk hn0
  clear hJ hG hX hr0 hb hbox hbW h0 hw0 hn0
  refine callsIn_of_wp Tryd.func31 rfl trivial ?_ rfl
  simp only [Tryd.ntmps31, List.size_toArray, List.length_cons, List.length_nil, Nat.reduceAdd, Nat.reduceSub, Array.replicate_succ, Array.replicate_zero, List.push_toArray, List.append_toArray, List.nil_append, List.cons_append]
  gi_wp2
  gi_loopw [3] (fun t wr => ∃ (p f : Nat) (pre : List RecG), p ≤ l0.length ∧ l0.length - p < f ∧ t = .int .i64 (p : Int) ∧ Aside0 ((scan (l0.length + 1) l0 0) = (pre ++ (scan f l0 p).1, (scan f l0 p).2)) ∧ Aside0 (J pre wr) ∧ Aside0 (KeepR n₀ Bn W wr))
    (fun t _ => l0.length - (intOf t).toNat)
  case atStart => exact ⟨0, l0.length + 1, [], by omega, by omega, rfl, ⟨rfl⟩, HJ0, ⟨Below.refl _ _, blk_lt HBX.out, rfl⟩⟩
  case round =>
    obtain ⟨p, f, pre, hp, hf, rfl, HS, HJp, HK⟩ := hrel
    have hbx : wr.heap[Bn]? = some (.cells #[.slice A0 l0.length c0] 22 (0, 0)) := HK.out.2.2.trans HBX.out
    have hc : wr.cell? ⟨Bn, 0, none⟩ = some (.slice A0 l0.length c0) := blk_cell hbx 0
    obtain ⟨f, rfl⟩ : ∃ m, f = m + 1 := ⟨f - 1, by omega⟩
    clear hbx
    by_cases hlt : p < l0.length
    · obtain ⟨A1, hq, hC1, hl1⟩ := cut_drop (A0 := A0) (c0 := c0) (l0 := l0) p (by omega) hc0
      obtain ⟨D, hD⟩ : ∃ D, D = l0.drop p := ⟨_, rfl⟩
      have hDl : D.length = l0.length - p := by rw [hD, List.length_drop]
      rw [← hD] at hq hC1 hl1
      have hDB : bytesB D = true := by rw [hD]; exact bytesB_drop HBY.out _
      have hent := entry_calls A1 (c0 - p) D wr (hC1 wr (Kd.C_below HR0.out (HBW.out.trans (HK.out.1.mono HW0.out)))) hl1 hDB
      cases hx : entryOf D with
      | bad c =>
        have hS3 : scan (l0.length + 1) l0 0 = (pre, c) := by
          rw [HS.out]; simp only [scan]; rw [if_neg (by omega), ← hD, hx]; simp
        have hc0' := entryOf_bad hx
        rw [hx] at hent
        have HE := Aside0.mk (show Calls Tryd.prog 32 #[.slice A1 D.length (c0 - p)] wr (BadPost c wr) from hent)
        have HS3 := Aside0.mk hS3
        have HCZ := Aside0.mk hc0'
        clear hent hx hS3 hc0' hD hC1 hDB HS hl1 hDl
        gi_wp2_with (first | (refine ⟨trivial, ?_⟩; gi_at_call 32; (with_reducible refine CallsIn.mono (callsIn_wide.2 HE.out) ?_); rintro e w1 ⟨B, rfl, hB1, hB2, hB3⟩; have HB1 := Aside0.mk hB1; have HB2 := Aside0.mk hB2; have HB3 := Aside0.mk hB3; clear hB1 hB2 hB3; obtain ⟨fn, tmps, assign, body, hy, hR⟩ := HX.out p B c (w1.alloc (.cells #[.string ⟨#[]⟩, .string ⟨#[]⟩] 24)) (by rw [HS3.out]; exact HJ.out _ _ _ HJp.out (grown_of_below (below_alloc HB3.out _))) (by rw [HS3.out]) (blk_alloc HB2.out _); dsimp only [encB] at hy; have HRR := Aside0.mk hR; clear hR))
        refine HRR.out.mono ?_
        rintro e W3 ⟨rfl, hjx⟩
        have HJX := Aside0.mk hjx
        clear hjx hy HRR
        gi_wp2
        refine bodyPost_ret (results_none rfl _ _ _) rfl ?_
        exact ⟨⟨_, rfl⟩, .inr ⟨by rw [HS3.out]; exact HCZ.out, by rw [HS3.out]; exact HJX.out⟩⟩
      | good n t k =>
        have hkk := entryOf_good hx
        have hS3 : scan (l0.length + 1) l0 0 = (pre ++ [(n, t, p + k)] ++ (scan f l0 (p + k)).1, (scan f l0 (p + k)).2) := by
          rw [HS.out]; simp only [scan]; rw [if_neg (by omega), ← hD, hx]; simp
        have hpk : p + k ≤ l0.length := by omega
        have hk8 : 8 ≤ k := hkk.1
        rw [hx] at hent
        have HE := Aside0.mk (show Calls Tryd.prog 32 #[.slice A1 D.length (c0 - p)] wr (fun e w' => e = .returned (.tuple #[.agg #[.string n, .string t], .int .i64 (k : Int), .nilIface]) ∧ Below wr.heap.size wr w') from hent)
        have HS3 := Aside0.mk hS3
        clear hent hx hS3 hD hC1 hDB HS hl1 hDl hkk
        gi_wp2_with (first | (refine ⟨trivial, ?_⟩; gi_at_call 32; (with_reducible refine CallsIn.mono (callsIn_wide.2 HE.out) ?_); rintro e w1 ⟨rfl, hB3⟩; have HB3 := Aside0.mk hB3; clear hB3; obtain ⟨fn, tmps, assign, body, hy, hR⟩ := HG.out pre (n, t, p + k) (w1.alloc (.cells #[.string n, .string t] 24)) (HJ.out _ _ _ HJp.out (grown_of_below (below_alloc HB3.out _))) (by rw [HS3.out]; simp only [List.length_append, List.length_cons]; omega); dsimp only [encG] at hy; rw [show ((p + k : Nat) : Int) = (p : Int) + (k : Int) by omega] at hy; have HRR := Aside0.mk hR; clear hR))
        refine HRR.out.mono ?_
        rintro e W3 ⟨rfl, hj3, hk3⟩
        have HJ3 := Aside0.mk hj3
        have HK3 := Aside0.mk (show KeepR n₀ Bn W W3 from HK.out.trans (KeepR.trans ⟨(below_alloc HB3.out _).mono (Nat.le_trans HN0.out HK.out.1.size), by have := HK.out.2.1; have := HK.out.1.size; omega, (below_alloc HB3.out _).block Bn (by have := HK.out.2.1; have := HK.out.1.size; omega)⟩ hk3))
        clear hj3 hk3 hy HRR
        gi_wp2
        go_roundw
        case rel => exact ⟨p + k, f, pre ++ [(n, t, p + k)], by omega, by omega, by go_num, HS3, HJ3, HK3⟩
        case measure => simp [intOf]; omega
    · have HS2 := Aside0.mk (show (scan (l0.length + 1) l0 0) = (pre, 0) by rw [HS.out]; simp [scan, show l0.length ≤ p by omega])
      gi_wp2
      go_end0
      exact ⟨⟨_, rfl⟩, .inl ⟨by rw [HS2.out], by rw [HS2.out]; exact HJp.out⟩⟩
end Go.Proofs.YtkeegknadegaaaaDoor.Q
