-- Written by a program of this session (a patched print) for this claim; Lean checks it.
import Derived.Test.YtplkofflhacehaaQ0
import Derived.Test.YtplkofflhacehaaQ3
import Derived.RangeFuncBox
import Derived.RangeFuncLeaves
import Derived.RangeFuncCalls
import Derived.RangeFuncNested
import Derived.Shelf.Abstract
import Derived.Shelf.RegionOpen
import Derived.OwnWalkIn
import Derived.TacticsInMore
import Derived.LoopNIn
import Derived.LoopIn
import Derived.Maps.AppendAt
import Derived.Laws.EntriesVeiled
namespace Go.Proofs.Ytplkofflhacehaa.Q
open Go.RowKit Go.Proofs.YtplkofflhacehaaW.PrintWords Go.Proofs.YtplkofflhacehaaW.PrintLast Go.Proofs.YtplkofflhacehaaW.PrintMore
attribute [local go_sem] max2_int min2_int max_two min_two max_three min_three max_four min_four   -- for this text's walks alone
set_option linter.unusedVariables false
set_option linter.unusedSimpArgs false

--EXT Derived.RangeFuncBox Derived.RangeFuncLeaves Derived.RangeFuncCalls Derived.RangeFuncNested Derived.Shelf.Abstract Derived.Shelf.RegionOpen Derived.OwnWalkIn Derived.TacticsInMore Derived.LoopNIn Derived.LoopIn Derived.Maps.AppendAt Derived.Laws.EntriesVeiled
/-! ### nat_all: function 37, by hand: a range over an iterator, a closure that keeps what is carried -/
open Go.Shelf

attribute [local go_sem] Oper.semAt_some

/-- A step of limbs: function g does gf. -/
def StepFn (g : Nat) (gf : Int → Int → Int → Int × Int) : Prop :=
  ∀ x y c (w : World), Calls Try.prog g #[.int .u32 x, .int .u32 y, .int .u32 c] w fun e w' => e = .returned (.tuple #[.int .u32 (gf x y c).1, .int .u32 (gf x y c).2]) ∧ Drawn0 w w'

set_option maxHeartbeats 2000000 in
set_option maxRecDepth 100000 in
theorem carried1_calls (g : Nat) (hgl : g = 38 ∨ g = 40) (gf : Int → Int → Int → Int × Int) (hg : StepFn g gf) (x y c : Int) (B1 B2 : Nat) (w : World)
    (h1 : w.cell? ⟨B1, 0, none⟩ = some (.func (.func g) #[] #[])) (h2 : Boxed w B2 37 (.int .u32 c)) :
    Calls Try.prog 45 #[.int .u32 x, .int .u32 y, .pointer (some ⟨B1, 0, none⟩), .pointer (some ⟨B2, 0, none⟩)] w fun e w' =>
      e = .returned (.int .u32 (gf x y c).1) ∧ ∃ n, w' = (w.drewN n).setCell ⟨B2, 0, none⟩ (.int .u32 (gf x y c).2) := by
  have hc2 := h2.cell
  have hf2 := h2.frozen
  have HG : Hid (StepFn g gf) := hg
  clear hg h2
  rcases hgl with rfl | rfl
  all_goals
    go_enter Try.func45, Try.ntmps45
    go_wp2_with (first | (refine (HG.out _ _ _ _).mono ?_; rintro e w' ⟨rfl, ⟨nd, rfl⟩⟩))
    go_ret
    exact ⟨rfl, _, rfl⟩

def rowAt (l : List Int) (i : Nat) : Int := rd l (i : Int)
set_option maxHeartbeats 2000000 in
set_option maxRecDepth 100000 in
theorem at_same (A0 : Option Addr) (c0 : Nat) (l0 : List Int) (i : Nat) (w : World) (hr0 : Kd.C (Kd.int .u32) w A0 l0.length l0) :
    Calls Try.prog 42 #[.slice A0 l0.length c0, .int .i64 i] w fun e w' => e = .returned (.int .u32 (if i < l0.length then rowAt l0 i else 0)) ∧ w = w' := by
  have HR0 := Aside0.mk hr0
  clear hr0
  have h0 : decide ((i : Int) < 0) = false := by simp
  by_cases h : i < l0.length
  · have h1 : decide ((l0.length : Int) ≤ (i : Int)) = false := by simp; omega
    have h1' : decide (l0.length ≤ i) = false := by simp; omega
    obtain ⟨ad, e1, hx⟩ := Kd.at_int HR0.out (i : Int) (by omega) (by omega)
    cases e1
    rw [if_pos h]
    have hx' : w.cell? (ad.add i) = some (.int .u32 (rd l0 i)) := by simpa using hx
    clear hx
    go_enter Try.func42, Try.ntmps42
    go_wp2
    go_ret
    exact ⟨rfl, rfl⟩
  · have h1 : decide ((l0.length : Int) ≤ (i : Int)) = true := by simp; omega
    have h1' : decide (l0.length ≤ i) = true := by simp; omega
    rw [if_neg h]
    clear h
    go_enter Try.func42, Try.ntmps42
    go_wp2
    go_ret
    exact ⟨rfl, rfl⟩
theorem at_row (A0 : Option Addr) (c0 : Nat) (l0 : List Int) (i : Nat) (w : World) (hr0 : Kd.C (Kd.int .u32) w A0 l0.length l0) :
    Calls Try.prog 42 #[.slice A0 l0.length c0, .int .i64 i] w fun e w' => e = .returned (.int .u32 (rowAt l0 i)) ∧ w = w' := by
  refine (at_same A0 c0 l0 i w hr0).mono ?_
  rintro e w' ⟨he, hw⟩
  refine ⟨?_, hw⟩
  rw [he]
  by_cases h : i < l0.length
  · rw [if_pos h]
  · rw [if_neg h]
    have : rowAt l0 i = 0 := by simp only [rowAt, rd]; simp; rw [List.getElem?_eq_none (by omega)]; rfl
    rw [this]

/-- What has come when k rounds are over. -/
def upto {α : Type} (f : Nat → α) (k : Nat) : List α := (List.range k).map f
theorem upto_succ {α : Type} (f : Nat → α) (k : Nat) : upto f (k + 1) = upto f k ++ [f k] := by simp [upto, List.range_succ]
theorem upto_length {α : Type} (f : Nat → α) (k : Nat) : (upto f k).length = k := by simp [upto]
/-- What a round keeps: all below n₀, and the three boxes from Ba on. -/
def Keeps3 (n₀ Ba : Nat) (W W' : World) : Prop := Below n₀ W W' ∧ ∀ k, Ba ≤ k → k < Ba + 3 → W'.heap[k]? = W.heap[k]?
theorem Keeps3.refl (n₀ Ba : Nat) (W : World) : Keeps3 n₀ Ba W W := ⟨Below.refl _ _, fun _ _ _ => rfl⟩
theorem Keeps3.trans {n₀ Ba : Nat} {A B C : World} (h : Keeps3 n₀ Ba A B) (k : Keeps3 n₀ Ba B C) : Keeps3 n₀ Ba A C := ⟨h.1.trans k.1, fun i h1 h2 => (k.2 i h1 h2).trans (h.2 i h1 h2)⟩
theorem Keeps3.drew (n₀ Ba : Nat) (W : World) : Keeps3 n₀ Ba W W.drew := ⟨(Below.refl _ _).drew, fun _ _ _ => rfl⟩
/-- What a round answers: go on (b), or stop. -/
def Told (J Jx : List (Int × Int) → World → Prop) (n₀ Ba : Nat) (xs : List (Int × Int)) (W : World) (b : Bool) (W' : World) : Prop :=
  (b = true ∧ J xs W' ∧ Keeps3 n₀ Ba W W') ∨ (b = false ∧ Jx xs W')

set_option maxHeartbeats 4000000 in
set_option maxRecDepth 100000 in
theorem pairs1_in (l Ba n₀ : Nat) (n : Nat) (hn : n ≤ 70368744177664) (A0 : Option Addr) (c0 : Nat) (l0 : List Int) (A1 : Option Addr) (c1 : Nat) (l1 : List Int) (J Jx : List (Int × Int) → World → Prop) (W : World)
    (hJd : ∀ xs X, J xs X → J xs X.drew)
    (hY : ∀ pre x X, J pre X → pre.length < n → YieldAt Fence.wide 2 Try.prog l #[.int .u32 x.1, .int .u32 x.2] X fun e X' =>
      (e = .returned (.bool true) ∧ J (pre ++ [x]) X' ∧ Keeps3 n₀ Ba X X') ∨ (e = .returned (.bool false) ∧ Jx (pre ++ [x]) X'))
    (hca : W.cell? ⟨Ba, 0, none⟩ = some (.slice A0 l0.length c0)) (hcb : W.cell? ⟨Ba + 1, 0, none⟩ = some (.slice A1 l1.length c1)) (hcn : W.cell? ⟨Ba + 2, 0, none⟩ = some (.int .i64 n))
    (w0 : World) (hr0 : Kd.C (Kd.int .u32) w0 A0 l0.length l0) (hr1 : Kd.C (Kd.int .u32) w0 A1 l1.length l1) (hw0 : w0.heap.size ≤ n₀) (hbW : Below w0.heap.size w0 W) (h0 : J [] W) :
    CallsIn Fence.wide 3 Try.prog 46 #[.func (.yield l) #[] #[], .pointer (some ⟨Ba + 2, 0, none⟩), .pointer (some ⟨Ba, 0, none⟩), .pointer (some ⟨Ba + 1, 0, none⟩)] W fun e W' => (∃ v, e = .returned v) ∧
      ((∃ ys, ys = upto (fun i => (rowAt l0 i, rowAt l1 i)) n ∧ J ys W') ∨ (∃ pre, (∃ k, k ≤ n ∧ pre = upto (fun i => (rowAt l0 i, rowAt l1 i)) k) ∧ Jx pre W')) := by
  have HY : ∀ pre x X, J pre X → pre.length < n → YieldAt Fence.wide 2 Try.prog l #[.int .u32 x.1, .int .u32 x.2] X fun e X' => ∃ b, e = .returned (.bool b) ∧ Told J Jx n₀ Ba (pre ++ [x]) X b X' := by
    intro pre x X hJ hl
    obtain ⟨fn, tmps, assign, body, hy, hR⟩ := hY pre x X hJ hl
    refine ⟨fn, tmps, assign, body, hy, hR.mono ?_⟩
    rintro e X' (⟨rfl, h1, h2⟩ | ⟨rfl, h1⟩)
    · exact ⟨true, rfl, .inl ⟨rfl, h1, h2⟩⟩
    · exact ⟨false, rfl, .inr ⟨rfl, h1⟩⟩
  clear hY
  have HY' := Aside0.mk HY
  clear HY
  have HR0 := Aside0.mk hr0
  have HR1 := Aside0.mk hr1
  have HJD := Aside0.mk hJd
  clear hr0 hr1 hJd
  have HBW := Aside0.mk hbW
  clear hbW
  refine callsIn_of_wp Try.func46 rfl trivial ?_ rfl
  simp only [Try.ntmps46, List.size_toArray, List.length_cons, List.length_nil, Nat.reduceAdd, Nat.reduceSub, Array.replicate_succ, Array.replicate_zero, List.push_toArray, List.append_toArray, List.nil_append, List.cons_append]
  gi_wp2
  gi_loopw [7] (fun i wr => ∃ k : Nat, k ≤ n ∧ i = .int .i64 k ∧ Aside0 (J (upto (fun i => (rowAt l0 i, rowAt l1 i)) k) wr) ∧ Aside0 (Keeps3 n₀ Ba W wr))
    (fun i _ => n - (intOf i).toNat)
  case atStart => exact ⟨0, Nat.zero_le _, rfl, ⟨h0⟩, ⟨Keeps3.refl _ _ _⟩⟩
  case round =>
    obtain ⟨k, hk, rfl, hJs, HNX⟩ := hrel
    clear h0
    by_cases hlt : k < n
    · have hcn' : wr.cell? ⟨Ba + 2, 0, none⟩ = some (.int .i64 n) := (World.cell?_of_block (HNX.out.2 (Ba + 2) (by omega) (by omega))).trans hcn
      have hca' : wr.cell? ⟨Ba, 0, none⟩ = some (.slice A0 l0.length c0) := (World.cell?_of_block (HNX.out.2 Ba (by omega) (by omega))).trans hca
      have hcb' : wr.cell? ⟨Ba + 1, 0, none⟩ = some (.slice A1 l1.length c1) := (World.cell?_of_block (HNX.out.2 (Ba + 1) (by omega) (by omega))).trans hcb
      have hB' := Aside0.mk (HBW.out.trans (HNX.out.1.mono hw0))
      clear hcn hca hcb
      have hJd := HJD.out _ _ hJs.out
      obtain ⟨fn, tmps, assign, body, hy, hR⟩ := HY'.out _ (rowAt l0 k, rowAt l1 k) _ hJd (by rw [upto_length]; exact hlt)
      clear hJd
      dsimp only at hy
      have HRR := Aside0.mk hR
      clear hR
      have hmx : Try.prog.follows .mixedOrders = true := by kernel_rfl
      gi_wp2
      gi_region_with_o (first | (refine ⟨trivial, ?_⟩; gi_at_call 42; (with_reducible refine (callsIn_wide.2 (at_row A0 c0 l0 k _ (Kd.C_below HR0.out hB'.out.drew))).mono ?_); rintro e w' ⟨rfl, rfl⟩) | (refine ⟨trivial, ?_⟩; gi_at_call 42; (with_reducible refine (callsIn_wide.2 (at_row A1 c1 l1 k _ (Kd.C_below HR1.out hB'.out.drew))).mono ?_); rintro e w' ⟨rfl, rfl⟩) | ((with_reducible refine HRR.out.mono ?_); rintro e X' ⟨b, rfl, ht⟩; have HT := Aside0.mk ht; clear ht))
      all_goals
        cases b with
        | true =>
          have ht := HT.out
          rcases ht with ⟨_, hJ3, hk3⟩ | ⟨hb, _⟩
          · have HJ3 := Aside0.mk hJ3
            have HK3 := Aside0.mk (HNX.out.trans ((Keeps3.drew _ _ _).trans hk3))
            clear hJ3 hk3 hJs HT
            gi_wp2
            go_roundw
            case rel => exact ⟨k + 1, by omega, by go_num, ⟨by rw [upto_succ]; exact HJ3.out⟩, HK3⟩
            case measure => simp [intOf]; omega
          · cases hb
        | false =>
          have ht := HT.out
          rcases ht with ⟨hb, _⟩ | ⟨_, hJx3⟩
          · cases hb
          · have HJ3 := Aside0.mk hJx3
            clear hJx3 hJs HT
            gi_wp2
            refine bodyPost_ret (results_none rfl _ _ _) rfl ?_
            exact ⟨⟨_, rfl⟩, .inr ⟨_, ⟨k + 1, by omega, (upto_succ _ _).symm⟩, HJ3.out⟩⟩
    · obtain rfl : k = n := by omega
      gi_wp2
      go_end0
      exact ⟨⟨_, rfl⟩, .inl ⟨_, rfl, hJs.out⟩⟩


/-- The limbs that a step makes of pairs, and what is carried behind them. -/
def outOf (gf : Int → Int → Int → Int × Int) (ps : List (Int × Int)) : List Int × Int := ps.foldl (fun s p => (s.1 ++ [(gf p.1 p.2 s.2).1], (gf p.1 p.2 s.2).2)) ([], 0)
theorem outOf_snoc (gf : Int → Int → Int → Int × Int) (ps : List (Int × Int)) (p : Int × Int) : outOf gf (ps ++ [p]) = ((outOf gf ps).1 ++ [(gf p.1 p.2 (outOf gf ps).2).1], (gf p.1 p.2 (outOf gf ps).2).2) := by simp [outOf]
theorem outOf_length (gf : Int → Int → Int → Int × Int) (ps : List (Int × Int)) : (outOf gf ps).1.length = ps.length := by
  have h : ∀ (ps : List (Int × Int)) (s : List Int × Int), (ps.foldl (fun s p => (s.1 ++ [(gf p.1 p.2 s.2).1], (gf p.1 p.2 s.2).2)) s).1.length = s.1.length + ps.length := by
    intro ps
    induction ps with
    | nil => intro s; simp
    | cons p ps ih => intro s; rw [List.foldl_cons, ih]; simp; omega
  have := h ps ([], 0)
  simpa [outOf] using this

theorem box_kept {X Y : World} {row : Option Nat} {B : Nat} {t : TypeId} {v : Value} (h : Boxed X B t v) (hg : X.grownBy Y row) (hr : ∀ r, row = some r → ∃ o : Obj, X.heap[r]? = some o ∧ o.isCells = false) : Boxed Y B t v :=
  h.kept hg (fun e' => by obtain ⟨o, ho, hc⟩ := hr B e'.symm; rw [show X.heap[B]? = _ from h] at ho; cases ho; cases hc)
theorem row_kept {X Y : World} {row : Option Nat} {base e size k : Nat} {v : Value} {xs : List Value} (h : X.ownsRow base e size v k xs) (hg : X.grownBy Y row) (hr : ∀ r, row = some r → ∃ o : Obj, X.heap[r]? = some o ∧ o.isCells = false) : Y.ownsRow base e size v k xs := by
  refine h.kept hg ?_
  rcases h.2 with ⟨rfl, _⟩ | ⟨g, cap, cur, rfl, _, hgb, _⟩
  · exact .inl rfl
  · refine .inr fun e' => ?_
    obtain ⟨o, ho, hc⟩ := hr g (by simpa [Value.ownBlock] using e'.symm)
    rw [hgb] at ho; cases ho; cases hc
/-- A row of base's or later is no box below base. -/
theorem row_not {W : World} {base e size k B : Nat} {v : Value} {xs : List Value} (h : W.ownsRow base e size v k xs) (hB : B < base) : some B ≠ v.ownBlock := fun e' => by
  have := (h.lt B e'.symm).1
  omega

structure AllInv (n₀ Bo g : Nat) (gf : Int → Int → Int → Int × Int) (pre : List (Int × Int)) (v : Value) (X : World) : Prop where
  out : Boxed X (Bo) 22 v
  row : X.ownsRow (n₀ + 2) 37 1 v pre.length ((outOf gf pre).1.map (Value.int .u32))
  c : Boxed X (n₀ + 1) 37 (.int .u32 (outOf gf pre).2)
  s : Boxed X n₀ 49 (.func (.func g) #[] #[])
  d : Boxed X (n₀ + 2) 53 (.func (.func 45) #[] #[.pointer (some ⟨n₀, 0, none⟩), .pointer (some ⟨n₀ + 1, 0, none⟩)])

theorem AllInv.kept {n₀ Bo g : Nat} {gf : Int → Int → Int → Int × Int} {pre : List (Int × Int)} {v : Value} {X Y : World} {row : Option Nat} (h : AllInv n₀ Bo g gf pre v X) (hg : X.grownBy Y row)
    (hr : ∀ r, row = some r → ∃ o : Obj, X.heap[r]? = some o ∧ o.isCells = false) : AllInv n₀ Bo g gf pre v Y :=
  ⟨box_kept h.out hg hr, row_kept h.row hg hr, box_kept h.c hg hr, box_kept h.s hg hr, box_kept h.d hg hr⟩

theorem grownBy_drewN (w : World) (n : Nat) (row : Option Nat) : w.grownBy (w.drewN n) row := ⟨rfl, rfl, rfl, Nat.le_refl _, fun _ _ _ => rfl⟩

/-- The step: the call of 'do', the row's new limb, the store. -/
theorem AllInv.step {n₀ Bo g : Nat} {gf : Int → Int → Int → Int × Int} {pre : List (Int × Int)} {v v' : Value} {X w1 w2 : World} {tmp : Obj} {nd : Nat} (x : Int × Int) (hBo : n₀ + 2 < Bo) (h : AllInv n₀ Bo g gf pre v X)
    (hw1 : w1 = (X.drewN nd).setCell ⟨n₀ + 1, 0, none⟩ (.int .u32 (gf x.1 x.2 (outOf gf pre).2).2))
    (hown : w2.ownsRow (n₀ + 2) 37 1 v' (pre.length + 1) ((outOf gf pre).1.map (Value.int .u32) ++ [.int .u32 (gf x.1 x.2 (outOf gf pre).2).1]))
    (hgrow : (w1.alloc tmp).grownBy w2 v.ownBlock) :
    Boxed w2 (Bo) 22 v ∧ AllInv n₀ Bo g gf (pre ++ [x]) v' (w2.setCell ⟨Bo, 0, none⟩ v') ∧ KeepsOthers X (w2.setCell ⟨Bo, 0, none⟩ v') ∧ Below n₀ X (w2.setCell ⟨Bo, 0, none⟩ v') ∧ ∀ B t u, Boxed X B t u → t ≠ 37 → B ≠ Bo → Boxed (w2.setCell ⟨Bo, 0, none⟩ v') B t u := by
  have g1 : X.grownBy (X.drewN nd) none := grownBy_drewN X nd none
  have g2 : (X.drewN nd).grownBy w1 (some (n₀ + 1)) := by rw [hw1]; exact grownBy_setCell' _ _ _
  have g3 : w1.grownBy (w1.alloc tmp) none := World.grownBy_alloc w1 tmp none
  have hX := h.kept g1 (fun r e => by cases e)
  have hXc : Boxed w1 (n₀ + 1) 37 (.int .u32 (gf x.1 x.2 (outOf gf pre).2).2) := by rw [hw1]; exact hX.c.set _
  have row1 : w1.ownsRow (n₀ + 2) 37 1 v pre.length ((outOf gf pre).1.map (Value.int .u32)) := hX.row.kept g2 (.inr (fun e => row_not hX.row (by omega) e.symm))
  have out1 : Boxed w1 (Bo) 22 v := hX.out.kept g2 (by simp; omega)
  have s1 : Boxed w1 n₀ 49 _ := hX.s.kept g2 (by simp)
  have d1 : Boxed w1 (n₀ + 2) 53 _ := hX.d.kept g2 (by simp)
  have row1' := row1.alloc tmp
  have out2 : Boxed w2 (Bo) 22 v := (out1.alloc tmp).kept hgrow ((out1.alloc tmp).not_row (by decide) row1')
  have s2 : Boxed w2 n₀ 49 _ := (s1.alloc tmp).kept hgrow (row_not row1' (by omega))
  have c2 : Boxed w2 (n₀ + 1) 37 _ := (hXc.alloc tmp).kept hgrow (row_not row1' (by omega))
  have d2 : Boxed w2 (n₀ + 2) 53 _ := (d1.alloc tmp).kept hgrow ((d1.alloc tmp).not_row (by decide) row1')
  have g4 := grownBy_setCell' w2 (Bo) v'
  refine ⟨out2, ⟨out2.set v', ?_, ?_, s2.kept g4 (by simp; omega), d2.kept g4 (by simp; omega)⟩, ?_, ?_, ?_⟩
  · have := hown.kept g4 (.inr (fun e => (out2.not_row (by decide) hown) e.symm))
    rw [outOf_snoc]
    simpa using this
  · rw [outOf_snoc]
    exact c2.kept g4 (by simp; omega)
  · have k1 : KeepsOthers X (X.drewN nd) := ⟨Nat.le_refl _, fun _ _ hh _ => hh⟩
    have k2 : KeepsOthers (X.drewN nd) w1 := by rw [hw1]; exact KeepsOthers.setCell _ _ _
    refine (((k1.trans k2).trans (KeepsOthers.alloc w1 tmp)).trans (KeepsOthers.of_grownBy hgrow fun j o ej hj => ?_)).trans (KeepsOthers.setCell _ _ _)
    rcases row1'.2 with ⟨rfl, _⟩ | ⟨g', cap, cur, rfl, _, hgb, _⟩
    · simp [Value.ownBlock] at ej
    · obtain rfl : g' = j := by simpa [Value.ownBlock] using ej
      rw [hgb] at hj; cases hj; rfl
  · have hs : n₀ ≤ X.heap.size := by have := h.s.lt; omega
    have hs1 : n₀ ≤ w1.heap.size := by have := s1.lt; omega
    have b1 : Below n₀ X w1 := by rw [hw1]; exact Below.setCell (p := ⟨n₀ + 1, 0, none⟩) (show Below n₀ X (X.drewN nd) from ⟨rfl, rfl, rfl, Nat.le_refl _, fun _ _ => rfl⟩) (by simp) _
    refine Below.setCell (p := ⟨Bo, 0, none⟩) ((b1.alloc hs1 tmp).grown hgrow (by simp; omega) fun j ej => ?_) (by simp; omega) _
    have := (row1'.lt j ej).1
    omega
  · intro B t u hB ht hne
    have hB1 := hB.kept g1 (by simp)
    have hBc : B ≠ n₀ + 1 := by
      rintro rfl
      have h1 := (show X.heap[n₀ + 1]? = _ from hB).symm.trans (show X.heap[n₀ + 1]? = _ from h.c)
      simp at h1
      exact ht h1.2
    have hB2 : Boxed w1 B t u := hB1.kept g2 (by simp; omega)
    have hB3 : Boxed w2 B t u := (hB2.alloc tmp).kept hgrow ((hB2.alloc tmp).not_row ht row1')
    exact hB3.kept g4 (by simp; omega)


/-- A built-in append under a name that the walk leaves closed. -/
def appB (ats : Array TypeId) (ty : TypeId) (args : Array Value) : Sem Next := do pure (.value (← Builtin.append_ ats ty args))
theorem builtin_appB (ats : Array TypeId) (ty : TypeId) (cs : Array Bool) (args : Array Value) : builtin .append ats ty cs args = appB ats ty args := rfl
theorem run_appB {P : Program} {ats : Array TypeId} {ty : TypeId} {args : Array Value} {w w' : World} {v : Value} (h : (Builtin.append_ ats ty args).run P w = .ok v w') : (appB ats ty args).run P w = .ok (.value v) w' := by
  unfold appB
  simp only [Sem.run_bind, h, Result.andThen, Sem.run_pure]
set_option maxHeartbeats 2000000 in
set_option maxRecDepth 100000 in
theorem carried_in (m g : Nat) (w : World) : CallsIn Fence.wide m Try.prog 43 #[.func (.func g) #[] #[]] w fun e w' =>
    e = .returned (.func (.func 45) #[] #[.pointer (some ⟨w.heap.size, 0, none⟩), .pointer (some ⟨w.heap.size + 1, 0, none⟩)]) ∧ (w.alloc (.cells #[.func (.func g) #[] #[]] 49)).alloc (.cells #[.int .u32 0] 37) = w' := by
  refine callsIn_of_wp Try.func43 rfl trivial ?_ rfl
  simp only [Try.ntmps43, List.size_toArray, List.length_cons, List.length_nil, Nat.reduceAdd, Nat.reduceSub, Array.replicate_succ, Array.replicate_zero, List.push_toArray, List.append_toArray, List.nil_append, List.cons_append]
  gi_wp2
  go_ret
  exact ⟨rfl, rfl⟩
set_option maxHeartbeats 2000000 in
set_option maxRecDepth 100000 in
theorem pairs_in (a0 a1 : Option Addr) (n0 n1 c0 c1 : Nat) (n : Int) (m : Nat) (w : World) : CallsIn Fence.wide m Try.prog 44 #[.slice a0 n0 c0, .slice a1 n1 c1, .int .i64 n] w fun e w' =>
    e = .returned (.func (.func 46) #[] #[.pointer (some ⟨w.heap.size + 2, 0, none⟩), .pointer (some ⟨w.heap.size, 0, none⟩), .pointer (some ⟨w.heap.size + 1, 0, none⟩)]) ∧
      ((w.alloc (.cells #[.slice a0 n0 c0] 22)).alloc (.cells #[.slice a1 n1 c1] 22)).alloc (.cells #[.int .i64 n] 3) = w' := by
  refine callsIn_of_wp Try.func44 rfl trivial ?_ rfl
  simp only [Try.ntmps44, List.size_toArray, List.length_cons, List.length_nil, Nat.reduceAdd, Nat.reduceSub, Array.replicate_succ, Array.replicate_zero, List.push_toArray, List.append_toArray, List.nil_append, List.cons_append]
  gi_wp2
  go_ret
  exact ⟨rfl, rfl⟩

theorem AllInv.push {n₀ Bo g : Nat} {gf : Int → Int → Int → Int × Int} {pre : List (Int × Int)} {v : Value} {X w2 : World} {nd : Nat} (x : Int × Int) (hBo : n₀ + 2 < Bo) (hpl : pre.length ≤ 35184372088830) (h : AllInv n₀ Bo g gf pre v X)
    (hw : w2 = (X.drewN nd).setCell ⟨n₀ + 1, 0, none⟩ (.int .u32 (gf x.1 x.2 (outOf gf pre).2).2)) :
    Boxed w2 Bo 22 v ∧ ∃ g' cap w3, (appB #[22, 22] 22 #[v, .slice (some ⟨w2.heap.size, 0, none⟩) 1 1]).run Try.prog (w2.alloc (.cells #[.int .u32 (gf x.1 x.2 (outOf gf pre).2).1] 37)) = .ok (.value (.slice (some ⟨g', 0, none⟩) (pre.length + 1) cap)) w3 ∧
      Boxed w3 Bo 22 v ∧ Aside0 (AllInv n₀ Bo g gf (pre ++ [x]) (.slice (some ⟨g', 0, none⟩) (pre.length + 1) cap) (w3.setCell ⟨Bo, 0, none⟩ (.slice (some ⟨g', 0, none⟩) (pre.length + 1) cap)) ∧
        KeepsOthers X (w3.setCell ⟨Bo, 0, none⟩ (.slice (some ⟨g', 0, none⟩) (pre.length + 1) cap)) ∧ Below n₀ X (w3.setCell ⟨Bo, 0, none⟩ (.slice (some ⟨g', 0, none⟩) (pre.length + 1) cap)) ∧ ∀ B t u, Boxed X B t u → t ≠ 37 → B ≠ Bo → Boxed (w3.setCell ⟨Bo, 0, none⟩ (.slice (some ⟨g', 0, none⟩) (pre.length + 1) cap)) B t u) := by
  obtain ⟨i0, hi, hz0, hz1, hz2⟩ := info_parts info37
  have g1 : X.grownBy (X.drewN nd) none := grownBy_drewN X nd none
  have g2 : (X.drewN nd).grownBy w2 (some (n₀ + 1)) := by rw [hw]; exact grownBy_setCell' _ _ _
  have hX := h.kept g1 (fun r e => by cases e)
  have row1 : w2.ownsRow (n₀ + 2) 37 1 v pre.length ((outOf gf pre).1.map (Value.int .u32)) := hX.row.kept g2 (.inr (fun e => row_not hX.row (by omega) e.symm))
  have out1 : Boxed w2 Bo 22 v := hX.out.kept g2 (by simp; omega)
  have hlt := out1.lt
  obtain ⟨v', w3, hrun, r1, r2, _⟩ := run_append_own (P := Try.prog) (w2.alloc (.cells #[.int .u32 (gf x.1 x.2 (outOf gf pre).2).1] 37)) (n₀ + 2) 22 22 37 i0 (.int .u32 0) 1 4 Try.underlying22 hi hz0 hz1 hz2 rfl (by decide) v pre.length _ (row1.alloc _) ⟨w2.heap.size, 0, none⟩ 1 1 [.int .u32 (gf x.1 x.2 (outOf gf pre).2).1] rfl (cell_one_new _ _ _) (by simp [Value.oneCell']) (by unfold maxLen; omega) (by omega) (by simp; omega)
  obtain ⟨g', cap', rfl⟩ := ownsRow_succ r1
  obtain ⟨a1, a2, a3, a4, a5⟩ := h.step x hBo hw r1 r2
  exact ⟨out1, g', cap', w3, run_appB hrun, a1, ⟨a2, a3, a4, a5⟩⟩

theorem pairs_stops (Ba n₀ n : Nat) (hn : n ≤ 70368744177664) (A0 : Option Addr) (c0 : Nat) (l0 : List Int) (A1 : Option Addr) (c1 : Nat) (l1 : List Int) (W : World)
    (hlt : Ba + 2 < W.heap.size) (hca : W.cell? ⟨Ba, 0, none⟩ = some (.slice A0 l0.length c0)) (hcb : W.cell? ⟨Ba + 1, 0, none⟩ = some (.slice A1 l1.length c1)) (hcn : W.cell? ⟨Ba + 2, 0, none⟩ = some (.int .i64 n))
    (w0 : World) (hr0 : Kd.C (Kd.int .u32) w0 A0 l0.length l0) (hr1 : Kd.C (Kd.int .u32) w0 A1 l1.length l1) (hw0 : w0.heap.size ≤ n₀) (hbW : Below w0.heap.size w0 W) :
    SeqStopsK Fence.wide 3 Try.prog 46 #[.pointer (some ⟨Ba + 2, 0, none⟩), .pointer (some ⟨Ba, 0, none⟩), .pointer (some ⟨Ba + 1, 0, none⟩)] (fun x : Int × Int => #[Value.int .u32 x.1, Value.int .u32 x.2]) (Keeps3 n₀ Ba)
      (fun ys => ys = upto (fun i => (rowAt l0 i, rowAt l1 i)) n) (fun pre => ∃ k, k ≤ n ∧ pre = upto (fun i => (rowAt l0 i, rowAt l1 i)) k) n W := fun l J Jx X hX hJ _ hY h0 =>
  pairs1_in l Ba n₀ n hn A0 c0 l0 A1 c1 l1 J Jx X (fun xs Y h => hJ xs Y _ none h (grownBy_drewN Y 1 none) (fun r e => by cases e)) hY
    ((hX.cell (p := ⟨Ba, 0, none⟩) (by simp; omega)).trans hca) ((hX.cell (p := ⟨Ba + 1, 0, none⟩) (by simp; omega)).trans hcb) ((hX.cell (p := ⟨Ba + 2, 0, none⟩) (by simp; omega)).trans hcn)
    w0 hr0 hr1 hw0 (hbW.trans (hX.mono hbW.size)) h0

/-- A row of the call's own over the turn of a block that is no cells. -/
theorem R_putObj_ {α : Type} {d : Kd α} {e base : Nat} {w : World} {v : Value} {xs : List α} (h : d.R e w base (fun _ => True) v xs) {D : Nat} {o : Obj} (o' : Obj) (hD : w.heap[D]? = some o) (ho : o.isCells = false) : d.R e (w.putObj D o') base (fun _ => True) v xs :=
  Kd.R_mono (Kd.R_move (Kd.R_bound h) (fun k hk => World.putObj_heap_other (fun e => by
    obtain ⟨_, _, _, q, _, cells, hc⟩ := hk
    subst e
    rw [hc] at hD
    cases hD
    cases ho))) (fun _ _ => trivial)
theorem boxes_same {X Z : World} {B t1 t2 t3 : Nat} {u1 u2 u3 : Value} (h1 : Boxed X B t1 u1) (h2 : Boxed X (B + 1) t2 u2) (h3 : Boxed X (B + 2) t3 u3) (k1 : Boxed Z B t1 u1) (k2 : Boxed Z (B + 1) t2 u2) (k3 : Boxed Z (B + 2) t3 u3) :
    ∀ k, B ≤ k → k < B + 3 → Z.heap[k]? = X.heap[k]? := by
  intro k hk hk'
  rcases (show k = B ∨ k = B + 1 ∨ k = B + 2 by omega) with rfl | rfl | rfl
  · exact (show _ = _ from k1).trans (show _ = _ from h1).symm
  · exact (show _ = _ from k2).trans (show _ = _ from h2).symm
  · exact (show _ = _ from k3).trans (show _ = _ from h3).symm
attribute [local go_sem ↓ 3000] builtin_appB
set_option maxHeartbeats 8000000 in
set_option maxRecDepth 100000 in
theorem all_in (g : Nat) (hgl : g = 38 ∨ g = 40) (gf : Int → Int → Int → Int × Int) (hg : StepFn g gf) (A0 : Option Addr) (c0 : Nat) (l0 : List Int) (A1 : Option Addr) (c1 : Nat) (l1 : List Int) (n : Nat) (hn : n ≤ 35184372088831)
    (k : Nat) (r : List Int) (hmk : nat_Make.f k (outOf gf (upto (fun i => (rowAt l0 i, rowAt l1 i)) n)).1 = some r) (w : World)
    (hr0 : Kd.C (Kd.int .u32) w A0 l0.length l0) (hr1 : Kd.C (Kd.int .u32) w A1 l1.length l1) :
    CallsIn Fence.wide 4 Try.prog 37 #[.slice A0 l0.length c0, .slice A1 l1.length c1, .int .i64 n, .func (.func g) #[] #[]] w fun e w' => ∃ v0_ : Value, e = .returned (v0_) ∧ Kd.R (Kd.int .u32) 37 w' w.heap.size (fun _ => True) v0_ r ∧ Below w.heap.size w w' := by
  have HG := Aside0.mk hg
  have HR0 := Aside0.mk hr0
  have HR1 := Aside0.mk hr1
  have HMK := Aside0.mk hmk
  have HGL := Aside0.mk hgl
  clear hg hr0 hr1 hmk hgl
  obtain ⟨i0, hi, hz0, hz1, hz2⟩ := info_parts info37
  have HI := Aside0.mk hi
  have HZ0 := Aside0.mk hz0
  have HZ1 := Aside0.mk hz1
  have HZ2 := Aside0.mk hz2
  clear hi hz0 hz1 hz2
  refine callsIn_of_wp_marks Try.func37 rfl trivial ?_ rfl
  simp only [Try.ntmps37, List.size_toArray, List.length_cons, List.length_nil, Nat.reduceAdd, Nat.reduceSub, Array.replicate_succ, Array.replicate_zero, List.push_toArray, List.append_toArray, List.nil_append, List.cons_append]
  gi_wp2_with (first | (refine ⟨trivial, ?_⟩; gi_at_call 43; (with_reducible refine CallsIn.mono (carried_in _ g _) ?_); rintro e w' ⟨rfl, rfl⟩) | (refine ⟨trivial, ?_⟩; gi_at_call 44; (with_reducible refine CallsIn.mono (pairs_in _ _ _ _ _ _ _ _ _) ?_); rintro e w' ⟨rfl, rfl⟩) | (gi_at_make; refine wpListIn_make_own _ rfl _ _ 22 rfl (w.heap.size + 2) 37 i0 (.int .u32 0) 1 Try.underlying22 HI.out HZ0.out HZ1.out .i64 .i64 (n : Int) n rfl rfl rfl ?mk1 ?mk2 ?mk3 ?_; (case mk1 => rw [HZ2.out]; omega); (case mk2 => unfold maxLen; omega); (case mk3 => simp); intro w1 hrow1 hg1; have HROW := Aside0.mk hrow1; have HG1 := Aside0.mk hg1; clear hrow1 hg1))
  have hs1 : w.heap.size + 3 ≤ w1.heap.size := by have := HG1.out.size; simp at this; omega
  have bs : Boxed w1 w.heap.size 49 (.func (.func g) #[] #[]) := (((Boxed.new w 49 (.func (.func g) #[] #[])).alloc _).alloc _).kept HG1.out (by simp)
  have bc : Boxed w1 (w.heap.size + 1) 37 (.int .u32 0) := by
    have h := Boxed.new (w.alloc (.cells #[.func (.func g) #[] #[]] 49)) 37 (.int .u32 0)
    rw [World.size_alloc] at h
    exact (h.alloc _).kept HG1.out (by simp)
  have bd : Boxed w1 (w.heap.size + 2) 53 (.func (.func 45) #[] #[.pointer (some ⟨w.heap.size, 0, none⟩), .pointer (some ⟨w.heap.size + 1, 0, none⟩)]) := by
    have h := Boxed.new ((w.alloc (.cells #[.func (.func g) #[] #[]] 49)).alloc (.cells #[.int .u32 0] 37)) 53 (.func (.func 45) #[] #[.pointer (some ⟨w.heap.size, 0, none⟩), .pointer (some ⟨w.heap.size + 1, 0, none⟩)])
    rw [World.size_alloc, World.size_alloc] at h
    exact h.kept HG1.out (by simp)
  have hbw1 : Below w.heap.size w w1 := ((((Below.refl _ w).alloc (Nat.le_refl _) _).alloc (by simp) _).alloc (by simp; omega) _).grown HG1.out (by simp; omega) (fun _ e => by cases e)
  have HN := Aside0.mk hn
  have hrow : w1.ownsRow (w.heap.size + 2) 37 1 (.slice (some ⟨w.heap.size + 1 + 1 + 1, 0, none⟩) 0 n) 0 [] := by simpa using HROW.out
  have hbL : Below w.heap.size w ((((w1.alloc (.cells #[.slice (some ⟨w.heap.size + 1 + 1 + 1, 0, none⟩) 0 n] 22)).alloc (.cells #[.slice A0 l0.length c0] 22)).alloc (.cells #[.slice A1 l1.length c1] 22)).alloc (.cells #[.int .i64 n] 3)) :=
    (((hbw1.alloc (by omega) _).alloc (by simp; omega) _).alloc (by simp; omega) _).alloc (by simp; omega) _
  have ba : Boxed ((((w1.alloc (.cells #[.slice (some ⟨w.heap.size + 1 + 1 + 1, 0, none⟩) 0 n] 22)).alloc (.cells #[.slice A0 l0.length c0] 22)).alloc (.cells #[.slice A1 l1.length c1] 22)).alloc (.cells #[.int .i64 n] 3)) (w1.heap.size + 1) 22 (.slice A0 l0.length c0) := by
    have h := Boxed.new (w1.alloc (.cells #[.slice (some ⟨w.heap.size + 1 + 1 + 1, 0, none⟩) 0 n] 22)) 22 (.slice A0 l0.length c0)
    rw [World.size_alloc] at h
    exact (h.alloc _).alloc _
  have bb : Boxed ((((w1.alloc (.cells #[.slice (some ⟨w.heap.size + 1 + 1 + 1, 0, none⟩) 0 n] 22)).alloc (.cells #[.slice A0 l0.length c0] 22)).alloc (.cells #[.slice A1 l1.length c1] 22)).alloc (.cells #[.int .i64 n] 3)) (w1.heap.size + 1 + 1) 22 (.slice A1 l1.length c1) := by
    have h := Boxed.new ((w1.alloc (.cells #[.slice (some ⟨w.heap.size + 1 + 1 + 1, 0, none⟩) 0 n] 22)).alloc (.cells #[.slice A0 l0.length c0] 22)) 22 (.slice A1 l1.length c1)
    rw [World.size_alloc, World.size_alloc] at h
    exact h.alloc _
  have bn : Boxed ((((w1.alloc (.cells #[.slice (some ⟨w.heap.size + 1 + 1 + 1, 0, none⟩) 0 n] 22)).alloc (.cells #[.slice A0 l0.length c0] 22)).alloc (.cells #[.slice A1 l1.length c1] 22)).alloc (.cells #[.int .i64 n] 3)) (w1.heap.size + 1 + 2) 3 (.int .i64 n) := by
    have h := Boxed.new (((w1.alloc (.cells #[.slice (some ⟨w.heap.size + 1 + 1 + 1, 0, none⟩) 0 n] 22)).alloc (.cells #[.slice A0 l0.length c0] 22)).alloc (.cells #[.slice A1 l1.length c1] 22)) 3 (.int .i64 n)
    rw [World.size_alloc, World.size_alloc, World.size_alloc] at h
    exact h
  have hI0 : AllInv w.heap.size w1.heap.size g gf [] (.slice (some ⟨w.heap.size + 1 + 1 + 1, 0, none⟩) 0 n) ((((w1.alloc (.cells #[.slice (some ⟨w.heap.size + 1 + 1 + 1, 0, none⟩) 0 n] 22)).alloc (.cells #[.slice A0 l0.length c0] 22)).alloc (.cells #[.slice A1 l1.length c1] 22)).alloc (.cells #[.int .i64 n] 3)) :=
    ⟨(((Boxed.new w1 22 _).alloc _).alloc _).alloc _, (((hrow.alloc _).alloc _).alloc _).alloc _, (((bc.alloc _).alloc _).alloc _).alloc _, (((bs.alloc _).alloc _).alloc _).alloc _, (((bd.alloc _).alloc _).alloc _).alloc _⟩
  obtain ⟨WL, hWL⟩ : ∃ WL, WL = ((((w1.alloc (.cells #[.slice (some ⟨w.heap.size + 1 + 1 + 1, 0, none⟩) 0 n] 22)).alloc (.cells #[.slice A0 l0.length c0] 22)).alloc (.cells #[.slice A1 l1.length c1] 22)).alloc (.cells #[.int .i64 n] 3)) := ⟨_, rfl⟩
  have hWs : WL.heap.size = w1.heap.size + 4 := by rw [hWL]; simp
  rw [← hWL] at ba bb bn hI0 hbL ⊢
  clear hWL bs bc bd hbw1 hrow HROW HG1
  have hts := pairs_stops (w1.heap.size + 1) w.heap.size n (by omega) A0 c0 l0 A1 c1 l1 WL (by omega) ba.cell bb.cell bn.cell w HR0.out HR1.out (Nat.le_refl _) hbL
  refine wpIn_rangeFunc_ownG (F := Fence.wide) rfl (by omega) (gf := 46) (lb := #[.pointer (some ⟨w1.heap.size + 1 + 2, 0, none⟩), .pointer (some ⟨w1.heap.size + 1, 0, none⟩), .pointer (some ⟨w1.heap.size + 1 + 1, 0, none⟩)]) rfl trivial (enters_of Try.func46 (by kernel_rfl) rfl)
    hts (fun h k => Keeps3.trans h k)
    (fun W l o o' hl hh _ _ => ⟨(Below.refl _ W).grown (grownBy_putObj' W l o') (by have := (Array.getElem?_eq_some_iff.1 hh).1; omega) (fun k e => by cases e; omega), fun k h1 h2 => (grownBy_putObj' W l o').block k (by have := (Array.getElem?_eq_some_iff.1 hh).1; omega) (by simp; omega)⟩)
    (Below.refl _ _) (fun _ => rfl)
    (fun pre W => ((∃ v, AllInv w.heap.size w1.heap.size g gf pre v W) ∧ Boxed W (w1.heap.size + 1) 22 (.slice A0 l0.length c0) ∧ Boxed W (w1.heap.size + 1 + 1) 22 (.slice A1 l1.length c1) ∧ Boxed W (w1.heap.size + 1 + 2) 3 (.int .i64 n)) ∧ Below w.heap.size w W)
    (fun _ _ _ => False)
    (OwnFrom.and (Own.from (fun s A B row hs hg hr => by obtain ⟨⟨v, hv⟩, h1, h2, h3⟩ := hs; exact ⟨⟨v, hv.kept hg hr⟩, box_kept h1 hg hr, box_kept h2 hg hr, box_kept h3 hg hr⟩) _) (ownFrom_below (Nat.le_refl _) (by omega)))
    (fun _ _ _ _ _ hs _ _ => hs)
    ⟨⟨⟨_, hI0⟩, ba, bb, bn⟩, hbL⟩
    (fun x => { tmps := #[.slice A0 l0.length c0, .slice A1 l1.length c1, .int .i64 n, .func (.func g) #[] #[], undef, undef, undef, undef, .slice none 0 0, .pointer (some ⟨w.heap.size + 1 + 1, 0, none⟩), .pointer (some ⟨w1.heap.size, 0, none⟩), .int .u32 x.1, .int .u32 x.2, .func (.func g) #[] #[],
        .func (.func 45) #[] #[.pointer (some ⟨w.heap.size, 0, none⟩), .pointer (some ⟨w.heap.size + 1, 0, none⟩)], .int .i64 n, .slice (some ⟨w.heap.size + 1 + 1 + 1, 0, none⟩) 0 n, .slice A0 l0.length c0, .slice A1 l1.length c1, .int .i64 n,
        .func (.func 46) #[] #[.pointer (some ⟨w1.heap.size + 1 + 2, 0, none⟩), .pointer (some ⟨w1.heap.size + 1, 0, none⟩), .pointer (some ⟨w1.heap.size + 1 + 1, 0, none⟩)], .int .u32 x.1, .int .u32 x.2, undef, undef, undef, undef, undef, undef, undef, undef, undef], defers := [] }) ?assign ?body ?done ?stop
  case assign =>
    intro l x W K hK
    clear hts hI0 ba bb bn hbL
    gi_wp2
    exact hK
  case body =>
    rintro l pre x W ⟨⟨⟨v, hA⟩, hx1, hx2, hx3⟩, hB⟩ hlt
    have HX1 := Aside0.mk hx1
    have HX2 := Aside0.mk hx2
    have HX3 := Aside0.mk hx3
    clear hx1 hx2 hx3
    clear hts hI0 ba bb bn hbL
    have hmx : Try.prog.follows .mixedOrders = true := by kernel_rfl
    have hout := hA.out.cell
    have hd : W.cell? ⟨w.heap.size + 1 + 1, 0, none⟩ = some (.func (.func 45) #[] #[.pointer (some ⟨w.heap.size, 0, none⟩), .pointer (some ⟨w.heap.size + 1, 0, none⟩)]) := hA.d.cell
    have HA := Aside0.mk (hA.kept (grownBy_drewN W 1 none) (fun r e => by cases e))
    have hsc := Aside0.mk (show W.drew.cell? ⟨w.heap.size, 0, none⟩ = some (.func (.func g) #[] #[]) from hA.s.cell)
    have hcc := Aside0.mk (show Boxed W.drew (w.heap.size + 1) 37 (.int .u32 (outOf gf pre).2) from hA.c)
    have HBB := Aside0.mk hB
    have HPL := Aside0.mk (show pre.length ≤ 35184372088830 by omega)
    have HS1 := Aside0.mk hs1
    clear hA hB hlt hn hs1 hWs
    gi_wp2
    gi_region_with_o (first | (refine ⟨trivial, ?_⟩; gi_at_call 45; (with_reducible refine CallsIn.mono (CallsIn.inRound l (callsIn_wide.2 (carried1_calls g HGL.out gf HG.out x.1 x.2 _ _ _ _ hsc.out hcc.out))) ?_); rintro e w2 ⟨rfl, nd, hw2⟩; obtain ⟨hb2, g', cap', w3, hrun, hb3, HF⟩ := HA.out.push x (by have := HS1.out; omega) HPL.out hw2; have hc2 := hb2.cell; have hc2' := (hb2.alloc (.cells #[.int .u32 (gf x.1 x.2 (outOf gf pre).2).1] 37)).cell; have hc3 := hb3.cell; have hf3 := hb3.frozen; clear hw2 hb2 hb3))
    all_goals
      have y1 := HF.out.2.2.2 _ _ _ (show Boxed (W.drewN 1) _ _ _ from HX1.out) (by decide) (by omega)
      have y2 := HF.out.2.2.2 _ _ _ (show Boxed (W.drewN 1) _ _ _ from HX2.out) (by decide) (by omega)
      have y3 := HF.out.2.2.2 _ _ _ (show Boxed (W.drewN 1) _ _ _ from HX3.out) (by decide) (by omega)
      have hbz := (show Below w.heap.size W (W.drewN 1) from (Below.refl _ _).drew).trans HF.out.2.2.1
      exact ⟨((KeepsOthers.drew W).trans HF.out.2.1).from _, ⟨hbz, boxes_same HX1.out HX2.out HX3.out y1 y2 y3⟩, ⟨⟨_, HF.out.1⟩, y1, y2, y3⟩, HBB.out.trans hbz⟩
  case done =>
    rintro D ys W hD rfl ⟨⟨⟨v, hA⟩, _, _, _⟩, hB⟩ hK
    clear hts hI0 ba bb bn hbL
    have hout := hA.out.cell
    have hR : (Kd.int .u32).R 37 W (w.heap.size + 2) (fun _ => True) v (outOf gf (upto (fun i => (rowAt l0 i, rowAt l1 i)) n)).1 := Kd.R_of_own (by rw [outOf_length]; exact hA.row) (fun _ _ => trivial)
    obtain ⟨A', c', hv, hle, hC⟩ := Kd.R_reads hR
    clear hA hR
    have HC' := Aside0.mk hC
    have HLE := Aside0.mk hle
    have HBB := Aside0.mk hB
    have HK' := Aside0.mk hK
    have HD := Aside0.mk hD
    have HWS := Aside0.mk hWs
    have HS1 := Aside0.mk hs1
    clear hC hle hB hK hD hWs hs1 hn
    rw [hv] at hout
    clear hv
    gi_wp2_with (refine ⟨trivial, ?_⟩; gi_at_call 16; (with_reducible refine CallsIn.mono (callsIn_wide.2 (nat_Make.calls k A' c' _ r _ HC'.out HLE.out HMK.out)) ?_); rintro e w4 ⟨v4, rfl, ho4, hb4⟩; have HO4 := Aside0.mk ho4; have HB4 := Aside0.mk hb4; clear ho4 hb4)
    have hDlt : D < W.heap.size := (Array.getElem?_eq_some_iff.1 HK'.out).1
    have hK4 : w4.heap[D]? = some (.deferred (some [])) := (HB4.out.block D hDlt).trans HK'.out
    have hle1 : w.heap.size ≤ W.heap.size := HBB.out.size
    refine ⟨by simp, .inl ⟨_, _, rfl, run_takeDeferred hK4, ?_⟩⟩
    exact ⟨_, results_tmp rfl _ _ _, v4, rfl, R_putObj_ (Kd.R_lower HO4.out hle1) _ hK4 rfl, (HBB.out.trans (HB4.out.mono hle1)).trans (belowK_b (w := w) (Nat.le_refl _) w4 D _ _ (by have := HD.out; have := HWS.out; have := HS1.out; omega) hK4 rfl rfl)⟩
  case stop =>
    rintro D c pre W _ _ h _
    exact h.elim

end Go.Proofs.Ytplkofflhacehaa.Q
