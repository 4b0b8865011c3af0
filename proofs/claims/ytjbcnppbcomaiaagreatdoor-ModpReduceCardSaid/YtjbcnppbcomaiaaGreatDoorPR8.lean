/-
  ModpReduce: what is made of polynomials with whole coefficients, and then taken modulo a prime, is made alike of what they are modulo it (the row, the walk and the plain words), part 8 of 13 (packed by pack.py from texts of this session).
-/
import Derived.Test.YtjbcnppbcomaiaaGreatDoorPR1
import Derived.Test.YtjbcnppbcomaiaaGreatDoorPR2
import Derived.RangeFuncBox
import Derived.RangeFuncLeaves
import Derived.RangeFuncCalls
import Derived.RangeFuncNested
import Derived.Shelf.Abstract
import Derived.Shelf.RegionOpen
import Derived.OwnWalkIn
import Derived.TacticsInMore
import Derived.LoopNIn
import Derived.LoopIn
import Derived.Laws.EntriesVeiled
set_option maxRecDepth 100000
set_option maxHeartbeats 8000000
set_option linter.unusedVariables false
namespace Go.Proofs.YtjbcnppbcomaiaaGreatDoor.Q
open Go.RowKit Go.Shelf Go.Proofs.YtjbcnppbcomaiaaGreatDoorW.PrintWords Go.Proofs.YtjbcnppbcomaiaaGreatDoorW.PrintLast Go.Proofs.YtjbcnppbcomaiaaGreatDoorW.PrintMore
set_option linter.unusedVariables false
set_option linter.unusedSimpArgs false
attribute [local go_sem] Oper.semAt_some
def StepFn (g : Nat) (gf : Int → Int → Int → Int × Int) : Prop :=
 ∀ x y c (w : World), Calls Tryz.prog g #[.int .u32 x, .int .u32 y, .int .u32 c] w fun e w' => e = .returned (.tuple #[.int .u32 (gf x y c).1, .int .u32 (gf x y c).2]) ∧ Drawn0 w w'
theorem carried1_calls (g : Nat) (hgl : g = 83 ∨ g = 82) (gf : Int → Int → Int → Int × Int) (hg : StepFn g gf) (x y c : Int) (B1 B2 : Nat) (w : World)
   (h1 : w.cell? ⟨B1, 0, none⟩ = some (.func (.func g) #[] #[])) (h2 : Boxed w B2 23 (.int .u32 c)) :
   Calls Tryz.prog 107 #[.int .u32 x, .int .u32 y, .pointer (some ⟨B1, 0, none⟩), .pointer (some ⟨B2, 0, none⟩)] w fun e w' =>
     e = .returned (.int .u32 (gf x y c).1) ∧ ∃ n, w' = (w.drewN n).setCell ⟨B2, 0, none⟩ (.int .u32 (gf x y c).2) := by
 have hc2 := h2.cell
 have hf2 := h2.frozen
 have HG : Hid (StepFn g gf) := hg
 clear hg h2
 rcases hgl with rfl | rfl
 all_goals
   go_enter Tryz.func107, Tryz.ntmps107
   go_wp2_with (first | (refine (HG.out _ _ _ _).mono ?_; rintro e w' ⟨rfl, ⟨nd, rfl⟩⟩))
   go_ret
   exact ⟨rfl, _, rfl⟩
def rowAt (l : List Int) (i : Nat) : Int := rd l (i : Int)
theorem at_same (A0 : Option Addr) (c0 : Nat) (l0 : List Int) (i : Nat) (w : World) (hr0 : Kd.C (Kd.int .u32) w A0 l0.length l0) :
   Calls Tryz.prog 69 #[.slice A0 l0.length c0, .int .i64 i] w fun e w' => e = .returned (.int .u32 (if i < l0.length then rowAt l0 i else 0)) ∧ w = w' := by
 have HR0 := am hr0
 clear hr0
 have h0 : decide ((i : Int) < 0) = false := by simp
 by_cases h : i < l0.length
 case neg =>
   have h1 : decide ((l0.length : Int) ≤ (i : Int)) = true := by simp; omega
   have h1' : decide (l0.length ≤ i) = true := by simp; omega
   rw [if_neg h]
   clear h
   go_enter Tryz.func69, Tryz.ntmps69
   go_wp2
   go_ret
   exact ⟨rfl, rfl⟩
 have h1 : decide ((l0.length : Int) ≤ (i : Int)) = false := by simp; omega
 have h1' : decide (l0.length ≤ i) = false := by simp; omega
 obtain ⟨ad, e1, hx⟩ := Kd.at_int HR0.out (i : Int) (by omega) (by omega)
 cases e1
 rw [if_pos h]
 have hx' : w.cell? (ad.add i) = some (.int .u32 (rd l0 i)) := by simpa using hx
 clear hx
 go_enter Tryz.func69, Tryz.ntmps69
 go_wp2
 go_ret
 exact ⟨rfl, rfl⟩
theorem at_row (A0 : Option Addr) (c0 : Nat) (l0 : List Int) (i : Nat) (w : World) (hr0 : Kd.C (Kd.int .u32) w A0 l0.length l0) :
   Calls Tryz.prog 69 #[.slice A0 l0.length c0, .int .i64 i] w fun e w' => e = .returned (.int .u32 (rowAt l0 i)) ∧ w = w' := by
 refine (at_same A0 c0 l0 i w hr0).mono ?_
 rintro e w' ⟨he, hw⟩
 refine ⟨?_, hw⟩
 rw [he]
 by_cases h : i < l0.length
 · rw [if_pos h]
 rw [if_neg h]
 have : rowAt l0 i = 0 := by simp only [rowAt, rd]; simp; rw [List.getElem?_eq_none (by omega)]; rfl
 rw [this]
def upto {α : Type} (f : Nat → α) (k : Nat) : List α := (List.range k).map f
theorem upto_succ {α : Type} (f : Nat → α) (k : Nat) : upto f (k + 1) = upto f k ++ [f k] := by simp [upto, List.range_succ]
theorem upto_length {α : Type} (f : Nat → α) (k : Nat) : (upto f k).length = k := by simp [upto]
def Keeps3 (n₀ Ba : Nat) (W W' : World) : Prop := Below n₀ W W' ∧ ∀ k, Ba ≤ k → k < Ba + 3 → W'.heap[k]? = W.heap[k]?
theorem Keeps3.refl (n₀ Ba : Nat) (W : World) : Keeps3 n₀ Ba W W := ⟨Below.refl _ _, fun _ _ _ => rfl⟩
theorem Keeps3.trans {n₀ Ba : Nat} {A B C : World} (h : Keeps3 n₀ Ba A B) (k : Keeps3 n₀ Ba B C) : Keeps3 n₀ Ba A C := ⟨h.1.trans k.1, fun i h1 h2 => (k.2 i h1 h2).trans (h.2 i h1 h2)⟩
theorem Keeps3.drew (n₀ Ba : Nat) (W : World) : Keeps3 n₀ Ba W W.drew := ⟨(Below.refl _ _).drew, fun _ _ _ => rfl⟩
def ToldP (J Jx : List (Int × Int) → World → Prop) (n₀ Ba : Nat) (xs : List (Int × Int)) (W : World) (b : Bool) (W' : World) : Prop :=
 (b = true ∧ J xs W' ∧ Keeps3 n₀ Ba W W') ∨ (b = false ∧ Jx xs W')
theorem pairs1_in (l Ba n₀ : Nat) (n : Nat) (hn : n ≤ 70368744177664) (A0 : Option Addr) (c0 : Nat) (l0 : List Int) (A1 : Option Addr) (c1 : Nat) (l1 : List Int) (J Jx : List (Int × Int) → World → Prop) (W : World)
   (hJd : ∀ xs X, J xs X → J xs X.drew)
   (hY : ∀ pre x X, J pre X → pre.length < n → YieldAt Fence.wide 2 Tryz.prog l #[.int .u32 x.1, .int .u32 x.2] X fun e X' =>
     (e = .returned (.bool true) ∧ J (pre ++ [x]) X' ∧ Keeps3 n₀ Ba X X') ∨ (e = .returned (.bool false) ∧ Jx (pre ++ [x]) X'))
   (hca : W.cell? ⟨Ba, 0, none⟩ = some (.slice A0 l0.length c0)) (hcb : W.cell? ⟨Ba + 1, 0, none⟩ = some (.slice A1 l1.length c1)) (hcn : W.cell? ⟨Ba + 2, 0, none⟩ = some (.int .i64 n))
   (w0 : World) (hr0 : Kd.C (Kd.int .u32) w0 A0 l0.length l0) (hr1 : Kd.C (Kd.int .u32) w0 A1 l1.length l1) (hw0 : w0.heap.size ≤ n₀) (hbW : Below w0.heap.size w0 W) (h0 : J [] W) :
   CallsIn Fence.wide 3 Tryz.prog 108 #[.func (.yield l) #[] #[], .pointer (some ⟨Ba + 2, 0, none⟩), .pointer (some ⟨Ba, 0, none⟩), .pointer (some ⟨Ba + 1, 0, none⟩)] W fun e W' => (∃ v, e = .returned v) ∧
     ((∃ ys, ys = upto (fun i => (rowAt l0 i, rowAt l1 i)) n ∧ J ys W') ∨ (∃ pre, (∃ k, k ≤ n ∧ pre = upto (fun i => (rowAt l0 i, rowAt l1 i)) k) ∧ Jx pre W')) := by
 have HY : ∀ pre x X, J pre X → pre.length < n → YieldAt Fence.wide 2 Tryz.prog l #[.int .u32 x.1, .int .u32 x.2] X fun e X' => ∃ b, e = .returned (.bool b) ∧ ToldP J Jx n₀ Ba (pre ++ [x]) X b X' := by
   intro pre x X hJ hl
   obtain ⟨fn, tmps, assign, body, hy, hR⟩ := hY pre x X hJ hl
   refine ⟨fn, tmps, assign, body, hy, hR.mono ?_⟩
   rintro e X' (⟨rfl, h1, h2⟩ | ⟨rfl, h1⟩)
   · exact ⟨true, rfl, .inl ⟨rfl, h1, h2⟩⟩
   · exact ⟨false, rfl, .inr ⟨rfl, h1⟩⟩
 clear hY
 have HY' := am HY
 clear HY
 have HR0 := am hr0
 have HR1 := am hr1
 have HJD := am hJd
 clear hr0 hr1 hJd
 have HBW := am hbW
 clear hbW
 refine callsIn_of_wp Tryz.func108 rfl trivial ?_ rfl
 simp only [Tryz.ntmps108, List.size_toArray, List.length_cons, List.length_nil, Nat.reduceAdd, Nat.reduceSub, Array.replicate_succ, Array.replicate_zero, List.push_toArray, List.append_toArray, List.nil_append, List.cons_append]
 gi_wp2
 gi_loopw [7] (fun i wr => ∃ k : Nat, k ≤ n ∧ i = .int .i64 k ∧ Aside0 (J (upto (fun i => (rowAt l0 i, rowAt l1 i)) k) wr) ∧ Aside0 (Keeps3 n₀ Ba W wr))
   (fun i _ => n - (intOf i).toNat)
 case atStart => exact ⟨0, Nat.zero_le _, rfl, ⟨h0⟩, ⟨Keeps3.refl _ _ _⟩⟩
 obtain ⟨k, hk, rfl, hJs, HNX⟩ := hrel
 clear h0
 by_cases hlt : k < n
 case neg =>
   obtain rfl : k = n := by omega
   gi_wp2
   go_end0
   exact ⟨⟨_, rfl⟩, .inl ⟨_, rfl, hJs.out⟩⟩
 have hcn' : wr.cell? ⟨Ba + 2, 0, none⟩ = some (.int .i64 n) := (World.cell?_of_block (HNX.out.2 (Ba + 2) (by omega) (by omega))).trans hcn
 have hca' : wr.cell? ⟨Ba, 0, none⟩ = some (.slice A0 l0.length c0) := (World.cell?_of_block (HNX.out.2 Ba (by omega) (by omega))).trans hca
 have hcb' : wr.cell? ⟨Ba + 1, 0, none⟩ = some (.slice A1 l1.length c1) := (World.cell?_of_block (HNX.out.2 (Ba + 1) (by omega) (by omega))).trans hcb
 have hB' := am (HBW.out.trans (HNX.out.1.mono hw0))
 clear hcn hca hcb
 have hJd := HJD.out _ _ hJs.out
 obtain ⟨fn, tmps, assign, body, hy, hR⟩ := HY'.out _ (rowAt l0 k, rowAt l1 k) _ hJd (by rw [upto_length]; exact hlt)
 clear hJd
 dsimp only at hy
 have HRR := am hR
 clear hR
 have hmx : Tryz.prog.follows .mixedOrders = true := by kernel_rfl
 gi_wp2
 gi_region_with_o (first | (refine ⟨trivial, ?_⟩; gi_at_call 69; (with_reducible refine (callsIn_wide.2 (at_row A0 c0 l0 k _ (Kd.C_below HR0.out hB'.out.drew))).mono ?_); rintro e w' ⟨rfl, rfl⟩) | (refine ⟨trivial, ?_⟩; gi_at_call 69; (with_reducible refine (callsIn_wide.2 (at_row A1 c1 l1 k _ (Kd.C_below HR1.out hB'.out.drew))).mono ?_); rintro e w' ⟨rfl, rfl⟩) | ((with_reducible refine HRR.out.mono ?_); rintro e X' ⟨b, rfl, ht⟩; have HT := am ht; clear ht))
 all_goals
   cases b with
   | true =>
     have ht := HT.out
     rcases ht with ⟨_, hJ3, hk3⟩ | ⟨hb, _⟩
     · have HJ3 := am hJ3
       have HK3 := am (HNX.out.trans ((Keeps3.drew _ _ _).trans hk3))
       clear hJ3 hk3 hJs HT
       gi_wp2
       go_roundw
       case rel => exact ⟨k + 1, by omega, by go_num, ⟨by rw [upto_succ]; exact HJ3.out⟩, HK3⟩
       case measure => simp [intOf]; omega
     · cases hb
   | false =>
     have ht := HT.out
     rcases ht with ⟨hb, _⟩ | ⟨_, hJx3⟩
     · cases hb
     · have HJ3 := am hJx3
       clear hJx3 hJs HT
       gi_wp2
       refine bodyPost_ret (results_none rfl _ _ _) rfl ?_
       exact ⟨⟨_, rfl⟩, .inr ⟨_, ⟨k + 1, by omega, (upto_succ _ _).symm⟩, HJ3.out⟩⟩
def outOf (gf : Int → Int → Int → Int × Int) (ps : List (Int × Int)) : List Int × Int := ps.foldl (fun s p => (s.1 ++ [(gf p.1 p.2 s.2).1], (gf p.1 p.2 s.2).2)) ([], 0)
theorem outOf_snoc (gf : Int → Int → Int → Int × Int) (ps : List (Int × Int)) (p : Int × Int) : outOf gf (ps ++ [p]) = ((outOf gf ps).1 ++ [(gf p.1 p.2 (outOf gf ps).2).1], (gf p.1 p.2 (outOf gf ps).2).2) := by simp [outOf]
theorem outOf_length (gf : Int → Int → Int → Int × Int) (ps : List (Int × Int)) : (outOf gf ps).1.length = ps.length := by
 have h : ∀ (ps : List (Int × Int)) (s : List Int × Int), (ps.foldl (fun s p => (s.1 ++ [(gf p.1 p.2 s.2).1], (gf p.1 p.2 s.2).2)) s).1.length = s.1.length + ps.length := by
   intro ps
   induction ps with
   | nil => intro s; simp
   | cons p ps ih => intro s; rw [List.foldl_cons, ih]; simp; omega
 have := h ps ([], 0)
 simpa [outOf] using this
theorem box_kept {X Y : World} {row : Option Nat} {B : Nat} {t : TypeId} {v : Value} (h : Boxed X B t v) (hg : X.grownBy Y row) (hr : ∀ r, row = some r → ∃ o : Obj, X.heap[r]? = some o ∧ o.isCells = false) : Boxed Y B t v :=
 h.kept hg (fun e' => by obtain ⟨o, ho, hc⟩ := hr B e'.symm; rw [show X.heap[B]? = _ from h] at ho; cases ho; cases hc)
theorem row_kept {X Y : World} {row : Option Nat} {base e size k : Nat} {v : Value} {xs : List Value} (h : X.ownsRow base e size v k xs) (hg : X.grownBy Y row) (hr : ∀ r, row = some r → ∃ o : Obj, X.heap[r]? = some o ∧ o.isCells = false) : Y.ownsRow base e size v k xs := by
 refine h.kept hg ?_
 rcases h.2 with ⟨rfl, _⟩ | ⟨g, cap, cur, rfl, _, hgb, _⟩
 · exact .inl rfl
 · refine .inr fun e' => ?_
   obtain ⟨o, ho, hc⟩ := hr g (by simpa [Value.ownBlock] using e'.symm)
   rw [hgb] at ho; cases ho; cases hc
theorem row_not {W : World} {base e size k B : Nat} {v : Value} {xs : List Value} (h : W.ownsRow base e size v k xs) (hB : B < base) : some B ≠ v.ownBlock := fun e' => by
 have := (h.lt B e'.symm).1
 omega
structure AllInv (n₀ Bo g : Nat) (gf : Int → Int → Int → Int × Int) (pre : List (Int × Int)) (v : Value) (X : World) : Prop where
 out : Boxed X (Bo) 27 v
 row : X.ownsRow (n₀ + 2) 23 1 v pre.length ((outOf gf pre).1.map (Value.int .u32))
 c : Boxed X (n₀ + 1) 23 (.int .u32 (outOf gf pre).2)
 s : Boxed X n₀ 102 (.func (.func g) #[] #[])
 d : Boxed X (n₀ + 2) 117 (.func (.func 107) #[] #[.pointer (some ⟨n₀, 0, none⟩), .pointer (some ⟨n₀ + 1, 0, none⟩)])
theorem AllInv.kept {n₀ Bo g : Nat} {gf : Int → Int → Int → Int × Int} {pre : List (Int × Int)} {v : Value} {X Y : World} {row : Option Nat} (h : AllInv n₀ Bo g gf pre v X) (hg : X.grownBy Y row)
   (hr : ∀ r, row = some r → ∃ o : Obj, X.heap[r]? = some o ∧ o.isCells = false) : AllInv n₀ Bo g gf pre v Y :=
 ⟨box_kept h.out hg hr, row_kept h.row hg hr, box_kept h.c hg hr, box_kept h.s hg hr, box_kept h.d hg hr⟩
theorem grownBy_drewN (w : World) (n : Nat) (row : Option Nat) : w.grownBy (w.drewN n) row := ⟨rfl, rfl, rfl, Nat.le_refl _, fun _ _ _ => rfl⟩
theorem AllInv.step {n₀ Bo g : Nat} {gf : Int → Int → Int → Int × Int} {pre : List (Int × Int)} {v v' : Value} {X w1 w2 : World} {tmp : Obj} {nd : Nat} (x : Int × Int) (hBo : n₀ + 2 < Bo) (h : AllInv n₀ Bo g gf pre v X)
   (hw1 : w1 = (X.drewN nd).setCell ⟨n₀ + 1, 0, none⟩ (.int .u32 (gf x.1 x.2 (outOf gf pre).2).2))
   (hown : w2.ownsRow (n₀ + 2) 23 1 v' (pre.length + 1) ((outOf gf pre).1.map (Value.int .u32) ++ [.int .u32 (gf x.1 x.2 (outOf gf pre).2).1]))
   (hgrow : (w1.alloc tmp).grownBy w2 v.ownBlock) :
   Boxed w2 (Bo) 27 v ∧ AllInv n₀ Bo g gf (pre ++ [x]) v' (w2.setCell ⟨Bo, 0, none⟩ v') ∧ KeepsOthers X (w2.setCell ⟨Bo, 0, none⟩ v') ∧ Below n₀ X (w2.setCell ⟨Bo, 0, none⟩ v') ∧ ∀ B t u, Boxed X B t u → t ≠ 23 → B ≠ Bo → Boxed (w2.setCell ⟨Bo, 0, none⟩ v') B t u := by
 have g1 : X.grownBy (X.drewN nd) none := grownBy_drewN X nd none
 have g2 : (X.drewN nd).grownBy w1 (some (n₀ + 1)) := by rw [hw1]; exact grownBy_setCell' _ _ _
 have g3 : w1.grownBy (w1.alloc tmp) none := World.grownBy_alloc w1 tmp none
 have hX := h.kept g1 (fun r e => by cases e)
 have hXc : Boxed w1 (n₀ + 1) 23 (.int .u32 (gf x.1 x.2 (outOf gf pre).2).2) := by rw [hw1]; exact hX.c.set _
 have row1 : w1.ownsRow (n₀ + 2) 23 1 v pre.length ((outOf gf pre).1.map (Value.int .u32)) := hX.row.kept g2 (.inr (fun e => row_not hX.row (by omega) e.symm))
 have out1 : Boxed w1 (Bo) 27 v := hX.out.kept g2 (by simp; omega)
 have s1 : Boxed w1 n₀ 102 _ := hX.s.kept g2 (by simp)
 have d1 : Boxed w1 (n₀ + 2) 117 _ := hX.d.kept g2 (by simp)
 have row1' := row1.alloc tmp
 have out2 : Boxed w2 (Bo) 27 v := (out1.alloc tmp).kept hgrow ((out1.alloc tmp).not_row (by decide) row1')
 have s2 : Boxed w2 n₀ 102 _ := (s1.alloc tmp).kept hgrow (row_not row1' (by omega))
 have c2 : Boxed w2 (n₀ + 1) 23 _ := (hXc.alloc tmp).kept hgrow (row_not row1' (by omega))
 have d2 : Boxed w2 (n₀ + 2) 117 _ := (d1.alloc tmp).kept hgrow ((d1.alloc tmp).not_row (by decide) row1')
 have g4 := grownBy_setCell' w2 (Bo) v'
 refine ⟨out2, ⟨out2.set v', ?_, ?_, s2.kept g4 (by simp; omega), d2.kept g4 (by simp; omega)⟩, ?_, ?_, ?_⟩
 · have := hown.kept g4 (.inr (fun e => (out2.not_row (by decide) hown) e.symm))
   rw [outOf_snoc]
   simpa using this
 · rw [outOf_snoc]
   exact c2.kept g4 (by simp; omega)
 · have k1 : KeepsOthers X (X.drewN nd) := ⟨Nat.le_refl _, fun _ _ hh _ => hh⟩
   have k2 : KeepsOthers (X.drewN nd) w1 := by rw [hw1]; exact KeepsOthers.setCell _ _ _
   refine (((k1.trans k2).trans (KeepsOthers.alloc w1 tmp)).trans (KeepsOthers.of_grownBy hgrow fun j o ej hj => ?_)).trans (KeepsOthers.setCell _ _ _)
   rcases row1'.2 with ⟨rfl, _⟩ | ⟨g', cap, cur, rfl, _, hgb, _⟩
   · simp [Value.ownBlock] at ej
   · obtain rfl : g' = j := by simpa [Value.ownBlock] using ej
     rw [hgb] at hj; cases hj; rfl
 · have hs : n₀ ≤ X.heap.size := by have := h.s.lt; omega
   have hs1 : n₀ ≤ w1.heap.size := by have := s1.lt; omega
   have b1 : Below n₀ X w1 := by rw [hw1]; exact Below.setCell (p := ⟨n₀ + 1, 0, none⟩) (show Below n₀ X (X.drewN nd) from ⟨rfl, rfl, rfl, Nat.le_refl _, fun _ _ => rfl⟩) (by simp) _
   refine Below.setCell (p := ⟨Bo, 0, none⟩) ((b1.alloc hs1 tmp).grown hgrow (by simp; omega) fun j ej => ?_) (by simp; omega) _
   have := (row1'.lt j ej).1
   omega
 · intro B t u hB ht hne
   have hB1 := hB.kept g1 (by simp)
   have hBc : B ≠ n₀ + 1 := by
     rintro rfl
     have h1 := (show X.heap[n₀ + 1]? = _ from hB).symm.trans (show X.heap[n₀ + 1]? = _ from h.c)
     simp at h1
     exact ht h1.2
   have hB2 : Boxed w1 B t u := hB1.kept g2 (by simp; omega)
   have hB3 : Boxed w2 B t u := (hB2.alloc tmp).kept hgrow ((hB2.alloc tmp).not_row ht row1')
   exact hB3.kept g4 (by simp; omega)
def appB (ats : Array TypeId) (ty : TypeId) (args : Array Value) : Sem Value := Builtin.append_ ats ty args
theorem append_appB (ats : Array TypeId) (ty : TypeId) (args : Array Value) : Builtin.append_ ats ty args = appB ats ty args := rfl
theorem run_appB {P : Program} {ats : Array TypeId} {ty : TypeId} {args : Array Value} {w w' : World} {v : Value} (h : (Builtin.append_ ats ty args).run P w = .ok v w') : (appB ats ty args).run P w = .ok v w' := h
theorem carried_in (m g : Nat) (w : World) : CallsIn Fence.wide m Tryz.prog 99 #[.func (.func g) #[] #[]] w fun e w' =>
   e = .returned (.func (.func 107) #[] #[.pointer (some ⟨w.heap.size, 0, none⟩), .pointer (some ⟨w.heap.size + 1, 0, none⟩)]) ∧ (w.alloc (.cells #[.func (.func g) #[] #[]] 102)).alloc (.cells #[.int .u32 0] 23) = w' := by
 refine callsIn_of_wp Tryz.func99 rfl trivial ?_ rfl
 simp only [Tryz.ntmps99, List.size_toArray, List.length_cons, List.length_nil, Nat.reduceAdd, Nat.reduceSub, Array.replicate_succ, Array.replicate_zero, List.push_toArray, List.append_toArray, List.nil_append, List.cons_append]
 gi_wp2
 go_ret
 exact ⟨rfl, rfl⟩
theorem pairs_in (a0 a1 : Option Addr) (n0 n1 c0 c1 : Nat) (n : Int) (m : Nat) (w : World) : CallsIn Fence.wide m Tryz.prog 100 #[.slice a0 n0 c0, .slice a1 n1 c1, .int .i64 n] w fun e w' =>
   e = .returned (.func (.func 108) #[] #[.pointer (some ⟨w.heap.size + 2, 0, none⟩), .pointer (some ⟨w.heap.size, 0, none⟩), .pointer (some ⟨w.heap.size + 1, 0, none⟩)]) ∧
     ((w.alloc (.cells #[.slice a0 n0 c0] 27)).alloc (.cells #[.slice a1 n1 c1] 27)).alloc (.cells #[.int .i64 n] 3) = w' := by
 refine callsIn_of_wp Tryz.func100 rfl trivial ?_ rfl
 simp only [Tryz.ntmps100, List.size_toArray, List.length_cons, List.length_nil, Nat.reduceAdd, Nat.reduceSub, Array.replicate_succ, Array.replicate_zero, List.push_toArray, List.append_toArray, List.nil_append, List.cons_append]
 gi_wp2
 go_ret
 exact ⟨rfl, rfl⟩
theorem AllInv.push {n₀ Bo g : Nat} {gf : Int → Int → Int → Int × Int} {pre : List (Int × Int)} {v : Value} {X w2 : World} {nd : Nat} (x : Int × Int) (hBo : n₀ + 2 < Bo) (hpl : pre.length ≤ 35184372088830) (h : AllInv n₀ Bo g gf pre v X)
   (hw : w2 = (X.drewN nd).setCell ⟨n₀ + 1, 0, none⟩ (.int .u32 (gf x.1 x.2 (outOf gf pre).2).2)) :
   Boxed w2 Bo 27 v ∧ ∃ g' cap w3, (appB #[27, 27] 27 #[v, .slice (some ⟨w2.heap.size, 0, none⟩) 1 1]).run Tryz.prog (w2.alloc (.cells #[.int .u32 (gf x.1 x.2 (outOf gf pre).2).1] 23)) = .ok (.slice (some ⟨g', 0, none⟩) (pre.length + 1) cap) w3 ∧
     Boxed w3 Bo 27 v ∧ Aside0 (AllInv n₀ Bo g gf (pre ++ [x]) (.slice (some ⟨g', 0, none⟩) (pre.length + 1) cap) (w3.setCell ⟨Bo, 0, none⟩ (.slice (some ⟨g', 0, none⟩) (pre.length + 1) cap)) ∧
       KeepsOthers X (w3.setCell ⟨Bo, 0, none⟩ (.slice (some ⟨g', 0, none⟩) (pre.length + 1) cap)) ∧ Below n₀ X (w3.setCell ⟨Bo, 0, none⟩ (.slice (some ⟨g', 0, none⟩) (pre.length + 1) cap)) ∧ ∀ B t u, Boxed X B t u → t ≠ 23 → B ≠ Bo → Boxed (w3.setCell ⟨Bo, 0, none⟩ (.slice (some ⟨g', 0, none⟩) (pre.length + 1) cap)) B t u) := by
 obtain ⟨i0, hi, hz0, hz1, hz2⟩ := info_parts info23
 have g1 : X.grownBy (X.drewN nd) none := grownBy_drewN X nd none
 have g2 : (X.drewN nd).grownBy w2 (some (n₀ + 1)) := by rw [hw]; exact grownBy_setCell' _ _ _
 have hX := h.kept g1 (fun r e => by cases e)
 have row1 : w2.ownsRow (n₀ + 2) 23 1 v pre.length ((outOf gf pre).1.map (Value.int .u32)) := hX.row.kept g2 (.inr (fun e => row_not hX.row (by omega) e.symm))
 have out1 : Boxed w2 Bo 27 v := hX.out.kept g2 (by simp; omega)
 have hlt := out1.lt
 obtain ⟨v', w3, hrun, r1, r2, _⟩ := run_append_own (P := Tryz.prog) (w2.alloc (.cells #[.int .u32 (gf x.1 x.2 (outOf gf pre).2).1] 23)) (n₀ + 2) 27 27 23 i0 (.int .u32 0) 1 4 Tryz.underlying27 hi hz0 hz1 hz2 rfl (by decide) v pre.length _ (row1.alloc _) ⟨w2.heap.size, 0, none⟩ 1 1 [.int .u32 (gf x.1 x.2 (outOf gf pre).2).1] rfl (cell_one_new _ _ _) (by simp [Value.oneCell']) (by unfold maxLen; omega) (by omega) (by simp; omega)
 obtain ⟨g', cap', rfl⟩ := ownsRow_succ r1
 obtain ⟨a1, a2, a3, a4, a5⟩ := h.step x hBo hw r1 r2
 exact ⟨out1, g', cap', w3, run_appB hrun, a1, ⟨a2, a3, a4, a5⟩⟩
theorem pairs_stops (Ba n₀ n : Nat) (hn : n ≤ 70368744177664) (A0 : Option Addr) (c0 : Nat) (l0 : List Int) (A1 : Option Addr) (c1 : Nat) (l1 : List Int) (W : World)
   (hlt : Ba + 2 < W.heap.size) (hca : W.cell? ⟨Ba, 0, none⟩ = some (.slice A0 l0.length c0)) (hcb : W.cell? ⟨Ba + 1, 0, none⟩ = some (.slice A1 l1.length c1)) (hcn : W.cell? ⟨Ba + 2, 0, none⟩ = some (.int .i64 n))
   (w0 : World) (hr0 : Kd.C (Kd.int .u32) w0 A0 l0.length l0) (hr1 : Kd.C (Kd.int .u32) w0 A1 l1.length l1) (hw0 : w0.heap.size ≤ n₀) (hbW : Below w0.heap.size w0 W) :
   SeqStopsK Fence.wide 3 Tryz.prog 108 #[.pointer (some ⟨Ba + 2, 0, none⟩), .pointer (some ⟨Ba, 0, none⟩), .pointer (some ⟨Ba + 1, 0, none⟩)] (fun x : Int × Int => #[Value.int .u32 x.1, Value.int .u32 x.2]) (Keeps3 n₀ Ba)
     (fun ys => ys = upto (fun i => (rowAt l0 i, rowAt l1 i)) n) (fun pre => ∃ k, k ≤ n ∧ pre = upto (fun i => (rowAt l0 i, rowAt l1 i)) k) n W := fun l J Jx X hX hJ _ hY h0 =>
 pairs1_in l Ba n₀ n hn A0 c0 l0 A1 c1 l1 J Jx X (fun xs Y h => hJ xs Y _ none h (grownBy_drewN Y 1 none) (fun r e => by cases e)) hY
   ((hX.cell (p := ⟨Ba, 0, none⟩) (by simp; omega)).trans hca) ((hX.cell (p := ⟨Ba + 1, 0, none⟩) (by simp; omega)).trans hcb) ((hX.cell (p := ⟨Ba + 2, 0, none⟩) (by simp; omega)).trans hcn)
   w0 hr0 hr1 hw0 (hbW.trans (hX.mono hbW.size)) h0
theorem R_putObj_ {α : Type} {d : Kd α} {e base : Nat} {w : World} {v : Value} {xs : List α} (h : d.R e w base (fun _ => True) v xs) {D : Nat} {o : Obj} (o' : Obj) (hD : w.heap[D]? = some o) (ho : o.isCells = false) : d.R e (w.putObj D o') base (fun _ => True) v xs :=
 Kd.R_mono (Kd.R_move (Kd.R_bound h) (fun k hk => World.putObj_heap_other (fun e => by
   obtain ⟨_, _, _, q, _, cells, hc⟩ := hk
   subst e
   rw [hc] at hD
   cases hD
   cases ho))) (fun _ _ => trivial)
theorem boxes_same {X Z : World} {B t1 t2 t3 : Nat} {u1 u2 u3 : Value} (h1 : Boxed X B t1 u1) (h2 : Boxed X (B + 1) t2 u2) (h3 : Boxed X (B + 2) t3 u3) (k1 : Boxed Z B t1 u1) (k2 : Boxed Z (B + 1) t2 u2) (k3 : Boxed Z (B + 2) t3 u3) :
   ∀ k, B ≤ k → k < B + 3 → Z.heap[k]? = X.heap[k]? := by
 intro k hk hk'
 rcases (show k = B ∨ k = B + 1 ∨ k = B + 2 by omega) with rfl | rfl | rfl
 · exact (show _ = _ from k1).trans (show _ = _ from h1).symm
 · exact (show _ = _ from k2).trans (show _ = _ from h2).symm
 · exact (show _ = _ from k3).trans (show _ = _ from h3).symm
attribute [local go_sem ↓] append_appB
theorem all_in (g : Nat) (hgl : g = 83 ∨ g = 82) (gf : Int → Int → Int → Int × Int) (hg : StepFn g gf) (A0 : Option Addr) (c0 : Nat) (l0 : List Int) (A1 : Option Addr) (c1 : Nat) (l1 : List Int) (n : Nat) (hn : n ≤ 35184372088831)
   (k : Nat) (r : List Int) (hmk : nat_Make.f k (outOf gf (upto (fun i => (rowAt l0 i, rowAt l1 i)) n)).1 = some r) (w : World)
   (hr0 : Kd.C (Kd.int .u32) w A0 l0.length l0) (hr1 : Kd.C (Kd.int .u32) w A1 l1.length l1) :
   CallsIn Fence.wide 4 Tryz.prog 81 #[.slice A0 l0.length c0, .slice A1 l1.length c1, .int .i64 n, .func (.func g) #[] #[]] w fun e w' => ∃ v0_ : Value, e = .returned (v0_) ∧ Kd.R (Kd.int .u32) 23 w' w.heap.size (fun _ => True) v0_ r ∧ Below w.heap.size w w' := by
 have HG := am hg
 have HR0 := am hr0
 have HR1 := am hr1
 have HMK := am hmk
 have HGL := am hgl
 clear hg hr0 hr1 hmk hgl
 obtain ⟨i0, hi, hz0, hz1, hz2⟩ := info_parts info23
 have HI := am hi
 have HZ0 := am hz0
 have HZ1 := am hz1
 have HZ2 := am hz2
 clear hi hz0 hz1 hz2
 refine callsIn_of_wp_marks Tryz.func81 rfl trivial ?_ rfl
 simp only [Tryz.ntmps81, List.size_toArray, List.length_cons, List.length_nil, Nat.reduceAdd, Nat.reduceSub, Array.replicate_succ, Array.replicate_zero, List.push_toArray, List.append_toArray, List.nil_append, List.cons_append]
 gi_wp2_with (first | (refine ⟨trivial, ?_⟩; gi_at_call 99; (with_reducible refine CallsIn.mono (carried_in _ g _) ?_); rintro e w' ⟨rfl, rfl⟩) | (refine ⟨trivial, ?_⟩; gi_at_call 100; (with_reducible refine CallsIn.mono (pairs_in _ _ _ _ _ _ _ _ _) ?_); rintro e w' ⟨rfl, rfl⟩) | (gi_at_make; refine wpListIn_make_own _ rfl _ _ 27 rfl (w.heap.size + 2) 23 i0 (.int .u32 0) 1 Tryz.underlying27 HI.out HZ0.out HZ1.out .i64 .i64 (n : Int) n rfl rfl rfl ?mk1 ?mk2 ?mk3 ?_; (case mk1 => rw [HZ2.out]; omega); (case mk2 => unfold maxLen; omega); (case mk3 => simp); intro w1 hrow1 hg1; have HROW := am hrow1; have HG1 := am hg1; clear hrow1 hg1))
 have hs1 : w.heap.size + 3 ≤ w1.heap.size := by have := HG1.out.size; simp at this; omega
 have bs : Boxed w1 w.heap.size 102 (.func (.func g) #[] #[]) := (((Boxed.new w 102 (.func (.func g) #[] #[])).alloc _).alloc _).kept HG1.out (by simp)
 have bc : Boxed w1 (w.heap.size + 1) 23 (.int .u32 0) := by
   have h := Boxed.new (w.alloc (.cells #[.func (.func g) #[] #[]] 102)) 23 (.int .u32 0)
   rw [World.size_alloc] at h
   exact (h.alloc _).kept HG1.out (by simp)
 have bd : Boxed w1 (w.heap.size + 2) 117 (.func (.func 107) #[] #[.pointer (some ⟨w.heap.size, 0, none⟩), .pointer (some ⟨w.heap.size + 1, 0, none⟩)]) := by
   have h := Boxed.new ((w.alloc (.cells #[.func (.func g) #[] #[]] 102)).alloc (.cells #[.int .u32 0] 23)) 117 (.func (.func 107) #[] #[.pointer (some ⟨w.heap.size, 0, none⟩), .pointer (some ⟨w.heap.size + 1, 0, none⟩)])
   rw [World.size_alloc, World.size_alloc] at h
   exact h.kept HG1.out (by simp)
 have hbw1 : Below w.heap.size w w1 := ((((Below.refl _ w).alloc (Nat.le_refl _) _).alloc (by simp) _).alloc (by simp; omega) _).grown HG1.out (by simp; omega) (fun _ e => by cases e)
 have HN := am hn
 have hrow : w1.ownsRow (w.heap.size + 2) 23 1 (.slice (some ⟨w.heap.size + 1 + 1 + 1, 0, none⟩) 0 n) 0 [] := by simpa using HROW.out
 have hbL : Below w.heap.size w ((((w1.alloc (.cells #[.slice (some ⟨w.heap.size + 1 + 1 + 1, 0, none⟩) 0 n] 27)).alloc (.cells #[.slice A0 l0.length c0] 27)).alloc (.cells #[.slice A1 l1.length c1] 27)).alloc (.cells #[.int .i64 n] 3)) :=
   (((hbw1.alloc (by omega) _).alloc (by simp; omega) _).alloc (by simp; omega) _).alloc (by simp; omega) _
 have ba : Boxed ((((w1.alloc (.cells #[.slice (some ⟨w.heap.size + 1 + 1 + 1, 0, none⟩) 0 n] 27)).alloc (.cells #[.slice A0 l0.length c0] 27)).alloc (.cells #[.slice A1 l1.length c1] 27)).alloc (.cells #[.int .i64 n] 3)) (w1.heap.size + 1) 27 (.slice A0 l0.length c0) := by
   have h := Boxed.new (w1.alloc (.cells #[.slice (some ⟨w.heap.size + 1 + 1 + 1, 0, none⟩) 0 n] 27)) 27 (.slice A0 l0.length c0)
   rw [World.size_alloc] at h
   exact (h.alloc _).alloc _
 have bb : Boxed ((((w1.alloc (.cells #[.slice (some ⟨w.heap.size + 1 + 1 + 1, 0, none⟩) 0 n] 27)).alloc (.cells #[.slice A0 l0.length c0] 27)).alloc (.cells #[.slice A1 l1.length c1] 27)).alloc (.cells #[.int .i64 n] 3)) (w1.heap.size + 1 + 1) 27 (.slice A1 l1.length c1) := by
   have h := Boxed.new ((w1.alloc (.cells #[.slice (some ⟨w.heap.size + 1 + 1 + 1, 0, none⟩) 0 n] 27)).alloc (.cells #[.slice A0 l0.length c0] 27)) 27 (.slice A1 l1.length c1)
   rw [World.size_alloc, World.size_alloc] at h
   exact h.alloc _
 have bn : Boxed ((((w1.alloc (.cells #[.slice (some ⟨w.heap.size + 1 + 1 + 1, 0, none⟩) 0 n] 27)).alloc (.cells #[.slice A0 l0.length c0] 27)).alloc (.cells #[.slice A1 l1.length c1] 27)).alloc (.cells #[.int .i64 n] 3)) (w1.heap.size + 1 + 2) 3 (.int .i64 n) := by
   have h := Boxed.new (((w1.alloc (.cells #[.slice (some ⟨w.heap.size + 1 + 1 + 1, 0, none⟩) 0 n] 27)).alloc (.cells #[.slice A0 l0.length c0] 27)).alloc (.cells #[.slice A1 l1.length c1] 27)) 3 (.int .i64 n)
   rw [World.size_alloc, World.size_alloc, World.size_alloc] at h
   exact h
 have hI0 : AllInv w.heap.size w1.heap.size g gf [] (.slice (some ⟨w.heap.size + 1 + 1 + 1, 0, none⟩) 0 n) ((((w1.alloc (.cells #[.slice (some ⟨w.heap.size + 1 + 1 + 1, 0, none⟩) 0 n] 27)).alloc (.cells #[.slice A0 l0.length c0] 27)).alloc (.cells #[.slice A1 l1.length c1] 27)).alloc (.cells #[.int .i64 n] 3)) :=
   ⟨(((Boxed.new w1 27 _).alloc _).alloc _).alloc _, (((hrow.alloc _).alloc _).alloc _).alloc _, (((bc.alloc _).alloc _).alloc _).alloc _, (((bs.alloc _).alloc _).alloc _).alloc _, (((bd.alloc _).alloc _).alloc _).alloc _⟩
 obtain ⟨WL, hWL⟩ : ∃ WL, WL = ((((w1.alloc (.cells #[.slice (some ⟨w.heap.size + 1 + 1 + 1, 0, none⟩) 0 n] 27)).alloc (.cells #[.slice A0 l0.length c0] 27)).alloc (.cells #[.slice A1 l1.length c1] 27)).alloc (.cells #[.int .i64 n] 3)) := ⟨_, rfl⟩
 have hWs : WL.heap.size = w1.heap.size + 4 := by rw [hWL]; simp
 rw [← hWL] at ba bb bn hI0 hbL ⊢
 clear hWL bs bc bd hbw1 hrow HROW HG1
 have hts := pairs_stops (w1.heap.size + 1) w.heap.size n (by omega) A0 c0 l0 A1 c1 l1 WL (by omega) ba.cell bb.cell bn.cell w HR0.out HR1.out (Nat.le_refl _) hbL
 refine wpIn_rangeFunc_ownG (F := Fence.wide) rfl (by omega) (gf := 108) (lb := #[.pointer (some ⟨w1.heap.size + 1 + 2, 0, none⟩), .pointer (some ⟨w1.heap.size + 1, 0, none⟩), .pointer (some ⟨w1.heap.size + 1 + 1, 0, none⟩)]) rfl trivial (enters_of Tryz.func108 (by kernel_rfl) rfl)
   hts (fun h k => Keeps3.trans h k)
   (fun W l o o' hl hh _ _ => ⟨(Below.refl _ W).grown (grownBy_putObj' W l o') (by have := (Array.getElem?_eq_some_iff.1 hh).1; omega) (fun k e => by cases e; omega), fun k h1 h2 => (grownBy_putObj' W l o').block k (by have := (Array.getElem?_eq_some_iff.1 hh).1; omega) (by simp; omega)⟩)
   (Below.refl _ _) (fun _ => rfl)
   (fun pre W => ((∃ v, AllInv w.heap.size w1.heap.size g gf pre v W) ∧ Boxed W (w1.heap.size + 1) 27 (.slice A0 l0.length c0) ∧ Boxed W (w1.heap.size + 1 + 1) 27 (.slice A1 l1.length c1) ∧ Boxed W (w1.heap.size + 1 + 2) 3 (.int .i64 n)) ∧ Below w.heap.size w W)
   (fun _ _ _ => False)
   (OwnFrom.and (Own.from (fun s A B row hs hg hr => by obtain ⟨⟨v, hv⟩, h1, h2, h3⟩ := hs; exact ⟨⟨v, hv.kept hg hr⟩, box_kept h1 hg hr, box_kept h2 hg hr, box_kept h3 hg hr⟩) _) (ownFrom_below (Nat.le_refl _) (by omega)))
   (fun _ _ _ _ _ hs _ _ => hs)
   ⟨⟨⟨_, hI0⟩, ba, bb, bn⟩, hbL⟩
   (fun x => { tmps := #[.slice A0 l0.length c0, .slice A1 l1.length c1, .int .i64 n, .func (.func g) #[] #[], undef, undef, undef, undef, .slice none 0 0, .pointer (some ⟨w.heap.size + 1 + 1, 0, none⟩), .pointer (some ⟨w1.heap.size, 0, none⟩), .int .u32 x.1, .int .u32 x.2, .func (.func g) #[] #[],
       .func (.func 107) #[] #[.pointer (some ⟨w.heap.size, 0, none⟩), .pointer (some ⟨w.heap.size + 1, 0, none⟩)], .int .i64 n, .slice (some ⟨w.heap.size + 1 + 1 + 1, 0, none⟩) 0 n, .slice A0 l0.length c0, .slice A1 l1.length c1, .int .i64 n,
       .func (.func 108) #[] #[.pointer (some ⟨w1.heap.size + 1 + 2, 0, none⟩), .pointer (some ⟨w1.heap.size + 1, 0, none⟩), .pointer (some ⟨w1.heap.size + 1 + 1, 0, none⟩)], .int .u32 x.1, .int .u32 x.2, undef, undef, undef, undef, undef, undef, undef, undef, undef], defers := [] }) ?assign ?body ?done ?stop
 case assign =>
   intro l x W K hK
   clear hts hI0 ba bb bn hbL
   gi_wp2
   exact hK
 case body =>
   rintro l pre x W ⟨⟨⟨v, hA⟩, hx1, hx2, hx3⟩, hB⟩ hlt
   have HX1 := am hx1
   have HX2 := am hx2
   have HX3 := am hx3
   clear hx1 hx2 hx3
   clear hts hI0 ba bb bn hbL
   have hmx : Tryz.prog.follows .mixedOrders = true := by kernel_rfl
   have hout := hA.out.cell
   have hd : W.cell? ⟨w.heap.size + 1 + 1, 0, none⟩ = some (.func (.func 107) #[] #[.pointer (some ⟨w.heap.size, 0, none⟩), .pointer (some ⟨w.heap.size + 1, 0, none⟩)]) := hA.d.cell
   have HA := am (hA.kept (grownBy_drewN W 1 none) (fun r e => by cases e))
   have hsc := am (show W.drew.cell? ⟨w.heap.size, 0, none⟩ = some (.func (.func g) #[] #[]) from hA.s.cell)
   have hcc := am (show Boxed W.drew (w.heap.size + 1) 23 (.int .u32 (outOf gf pre).2) from hA.c)
   have HBB := am hB
   have HPL := am (show pre.length ≤ 35184372088830 by omega)
   have HS1 := am hs1
   clear hA hB hlt hn hs1 hWs
   gi_wp2
   gi_region_with_o (first | (refine ⟨trivial, ?_⟩; gi_at_call 107; (with_reducible refine CallsIn.mono (CallsIn.inRound l (callsIn_wide.2 (carried1_calls g HGL.out gf HG.out x.1 x.2 _ _ _ _ hsc.out hcc.out))) ?_); rintro e w2 ⟨rfl, nd, hw2⟩; obtain ⟨hb2, g', cap', w3, hrun, hb3, HF⟩ := HA.out.push x (by have := HS1.out; omega) HPL.out hw2; have hc2 := hb2.cell; have hc2' := (hb2.alloc (.cells #[.int .u32 (gf x.1 x.2 (outOf gf pre).2).1] 23)).cell; have hc3 := hb3.cell; have hf3 := hb3.frozen; clear hw2 hb2 hb3))
   all_goals
     have y1 := HF.out.2.2.2 _ _ _ (show Boxed (W.drewN 1) _ _ _ from HX1.out) (by decide) (by omega)
     have y2 := HF.out.2.2.2 _ _ _ (show Boxed (W.drewN 1) _ _ _ from HX2.out) (by decide) (by omega)
     have y3 := HF.out.2.2.2 _ _ _ (show Boxed (W.drewN 1) _ _ _ from HX3.out) (by decide) (by omega)
     have hbz := (show Below w.heap.size W (W.drewN 1) from (Below.refl _ _).drew).trans HF.out.2.2.1
     exact ⟨((KeepsOthers.drew W).trans HF.out.2.1).from _, ⟨hbz, boxes_same HX1.out HX2.out HX3.out y1 y2 y3⟩, ⟨⟨_, HF.out.1⟩, y1, y2, y3⟩, HBB.out.trans hbz⟩
 case done =>
   rintro D ys W hD rfl ⟨⟨⟨v, hA⟩, _, _, _⟩, hB⟩ hK
   clear hts hI0 ba bb bn hbL
   have hout := hA.out.cell
   have hR : (Kd.int .u32).R 23 W (w.heap.size + 2) (fun _ => True) v (outOf gf (upto (fun i => (rowAt l0 i, rowAt l1 i)) n)).1 := Kd.R_of_own (by rw [outOf_length]; exact hA.row) (fun _ _ => trivial)
   obtain ⟨A', c', hv, hle, hC⟩ := Kd.R_reads hR
   clear hA hR
   have HC' := am hC
   have HLE := am hle
   have HBB := am hB
   have HK' := am hK
   have HD := am hD
   have HWS := am hWs
   have HS1 := am hs1
   clear hC hle hB hK hD hWs hs1 hn
   rw [hv] at hout
   clear hv
   gi_wp2_with (refine ⟨trivial, ?_⟩; gi_at_call 72; (with_reducible refine CallsIn.mono (callsIn_wide.2 (nat_Make.calls k A' c' _ r _ HC'.out HLE.out HMK.out)) ?_); rintro e w4 ⟨v4, rfl, ho4, hb4⟩; have HO4 := am ho4; have HB4 := am hb4; clear ho4 hb4)
   have hDlt : D < W.heap.size := (Array.getElem?_eq_some_iff.1 HK'.out).1
   have hK4 : w4.heap[D]? = some (.deferred (some [])) := (HB4.out.block D hDlt).trans HK'.out
   have hle1 : w.heap.size ≤ W.heap.size := HBB.out.size
   refine ⟨by simp, .inl ⟨_, _, rfl, run_takeDeferred hK4, ?_⟩⟩
   exact ⟨_, results_tmp rfl _ _ _, v4, rfl, R_putObj_ (Kd.R_lower HO4.out hle1) _ hK4 rfl, (HBB.out.trans (HB4.out.mono hle1)).trans (belowK_b (w := w) (Nat.le_refl _) w4 D _ _ (by have := HD.out; have := HWS.out; have := HS1.out; omega) hK4 rfl rfl)⟩
 case stop =>
   rintro D c pre W _ _ h _
   exact h.elim
def addG (x y c : Int) : Int × Int := (bits_Add32.f x y c).getD (0, 0)
def subG (x y c : Int) : Int × Int := (bits_Sub32.f x y c).getD (0, 0)
theorem addG_step : StepFn 82 addG := fun x y c w => bits_Add32.calls x y c _ _ w rfl
theorem subG_step : StepFn 83 subG := fun x y c w => bits_Sub32.calls x y c _ _ w rfl
def allRow (gf : Int → Int → Int → Int × Int) (l0 l1 : List Int) (n : Nat) : List Int := (outOf gf (upto (fun i => (rowAt l0 i, rowAt l1 i)) n)).1
theorem all_calls (g : Nat) (hgl : g = 83 ∨ g = 82) (gf : Int → Int → Int → Int × Int) (hg : StepFn g gf) (A0 : Option Addr) (c0 : Nat) (l0 : List Int) (A1 : Option Addr) (c1 : Nat) (l1 : List Int) (n : Nat) (N : Int) (hN : N = (n : Int)) (hn : n ≤ 35184372088831)
   (k : Nat) (r : List Int) (hmk : nat_Make.f k (allRow gf l0 l1 n) = some r) (w : World)
   (hr0 : Kd.C (Kd.int .u32) w A0 l0.length l0) (hr1 : Kd.C (Kd.int .u32) w A1 l1.length l1) :
   Calls Tryz.prog 81 #[.slice A0 l0.length c0, .slice A1 l1.length c1, .int .i64 N, .func (.func g) #[] #[]] w fun e w' => ∃ v0_ : Value, e = .returned (v0_) ∧ Kd.R (Kd.int .u32) 23 w' w.heap.size (fun _ => True) v0_ r ∧ Below w.heap.size w w' := by
 subst hN
 exact callsIn_wide.1 (all_in g hgl gf hg A0 c0 l0 A1 c1 l1 n hn k r hmk w hr0 hr1)
def nat_Add.f (k : Nat) (l0 : List Int) (l1 : List Int) : Option (List Int) := if max l0.length l1.length + 1 ≤ 35184372088831 then nat_Make.f k (allRow addG l0 l1 (max l0.length l1.length + 1)) else none
theorem nat_Add.calls (k : Nat) (A0 : Option Addr) (c0 : Nat) (l0 : List Int) (A1 : Option Addr) (c1 : Nat) (l1 : List Int) (r : List Int) (w : World) (hr0 : Kd.C (Kd.int .u32) w A0 l0.length l0) (hc0 : l0.length ≤ c0) (hr1 : Kd.C (Kd.int .u32) w A1 l1.length l1) (hc1 : l1.length ≤ c1) (h : nat_Add.f k l0 l1 = some r) :
   Calls Tryz.prog 55 #[.slice A0 l0.length c0, .slice A1 l1.length c1] w fun e w' => ∃ v0_ : Value, e = .returned (v0_) ∧ Kd.R (Kd.int .u32) 23 w' w.heap.size (fun _ => True) v0_ r ∧ Below w.heap.size w w' := by
 have HR0 := am hr0
 have HR1 := am hr1
 clear hr0 hr1 hc0 hc1
 unfold nat_Add.f at h
 by_cases hb : max l0.length l1.length + 1 ≤ 35184372088831
 case neg =>
   rw [if_neg hb] at h
   exact absurd h (by simp)
 rw [if_pos hb] at h
 obtain ⟨m, hm⟩ : ∃ m : Nat, max l0.length l1.length = m := ⟨_, rfl⟩
 rw [hm] at h hb
 have hmx : (if l0.length < l1.length then (l1.length : Int) else (l0.length : Int)) = (m : Int) := by
   split <;> omega
 have H := am h
 clear h hm
 have h0 : 0 ≤ (m : Int) := by omega
 have h1 : (m : Int) ≤ 35184372088830 := by omega
 go_enter Tryz.func55, Tryz.ntmps55
 go_wp2_with (go_at_call 81; (with_reducible refine Calls.mono (all_calls 82 (.inr rfl) addG addG_step A0 c0 l0 A1 c1 l1 (m + 1) _ ?hN hb k r H.out _ HR0.out HR1.out) ?_); (case hN => omega); rintro e w' ⟨v, rfl, ho, hb⟩; have HO := am ho; have HB := am hb; clear ho hb)
 go_ret
 exact ⟨_, rfl, HO.out, HB.out⟩
def nat_Sub.f (k : Nat) (l0 : List Int) (l1 : List Int) : Option (List Int × Bool) :=
 (nat_Cmp.f k l0 l1).bind fun t => if t < 0 then some (([] : List Int), false) else if l0.length ≤ 35184372088831 then (nat_Make.f k (allRow subG l0 l1 l0.length)).bind fun r => some (r, true) else none
theorem nat_Sub.calls (k : Nat) (A0 : Option Addr) (c0 : Nat) (l0 : List Int) (A1 : Option Addr) (c1 : Nat) (l1 : List Int) (r1 : List Int) (r2 : Bool) (w : World) (hr0 : Kd.C (Kd.int .u32) w A0 l0.length l0) (hc0 : l0.length ≤ c0) (hr1 : Kd.C (Kd.int .u32) w A1 l1.length l1) (hc1 : l1.length ≤ c1) (h : nat_Sub.f k l0 l1 = some (r1, r2)) :
   Calls Tryz.prog 57 #[.slice A0 l0.length c0, .slice A1 l1.length c1] w fun e w' => ∃ v0_ : Value, e = .returned (.tuple #[v0_, .bool r2]) ∧ Kd.R (Kd.int .u32) 23 w' w.heap.size (fun _ => True) v0_ r1 ∧ Below w.heap.size w w' := by
 have HR0 := am hr0
 have HR1 := am hr1
 have HC0 := am hc0
 have HC1 := am hc1
 clear hr0 hr1 hc0 hc1
 unfold nat_Sub.f at h
 obtain ⟨t, ht, h⟩ := Option.bind_eq_some_iff.mp h
 have HT := am ht
 clear ht
 by_cases hneg : t < 0
 · rw [if_pos hneg] at h
   simp only [Option.some.injEq, Prod.mk.injEq] at h
   obtain ⟨rfl, rfl⟩ := h
   have hnb : decide (t < 0) = true := decide_eq_true hneg
   clear hneg
   go_enter Tryz.func57, Tryz.ntmps57
   go_wp2_with (go_at_call 73; (with_reducible refine Calls.mono (nat_Cmp.calls k A0 c0 l0 A1 c1 l1 t _ HR0.out HC0.out HR1.out HC1.out HT.out) ?_); rintro e w' ⟨rfl, hb⟩; have HB := am hb; clear hb)
   go_ret2
   exact ⟨_, rfl, Kd.R_nil _ _ _ _ _, HB.out⟩
 rw [if_neg hneg] at h
 by_cases hb : l0.length ≤ 35184372088831
 case neg =>
   rw [if_neg hb] at h
   exact absurd h (by simp)
 rw [if_pos hb] at h
 obtain ⟨r, hr, h⟩ := Option.bind_eq_some_iff.mp h
 simp only [Option.some.injEq, Prod.mk.injEq] at h
 obtain ⟨rfl, rfl⟩ := h
 have H := am hr
 clear hr
 have hnb : decide (t < 0) = false := decide_eq_false hneg
 clear hneg
 go_enter Tryz.func57, Tryz.ntmps57
 go_wp2_with (first | (go_at_call 73; (with_reducible refine Calls.mono (nat_Cmp.calls k A0 c0 l0 A1 c1 l1 t _ HR0.out HC0.out HR1.out HC1.out HT.out) ?_); rintro e w' ⟨rfl, hb⟩; have HB := am hb; clear hb) | (go_at_call 81; (with_reducible refine Calls.mono (all_calls 83 (.inl rfl) subG subG_step A0 c0 l0 A1 c1 l1 l0.length _ rfl hb k r H.out _ (Kd.C_below HR0.out HB.out) (Kd.C_below HR1.out HB.out)) ?_); rintro e w2 ⟨v, rfl, ho, hb2⟩; have HO := am ho; have HB2 := am hb2; clear ho hb2))
 go_ret2
 exact ⟨_, rfl, Kd.R_lower HO.out HB.out.size, HB.out.trans (HB2.out.mono HB.out.size)⟩
end Go.Proofs.YtjbcnppbcomaiaaGreatDoor.Q
namespace Go.Proofs.YtjbcnppbcomaiaaGreatDoor.Q
open Go.RowKit Go.Shelf Go.Proofs.YtjbcnppbcomaiaaGreatDoorW.PrintWords Go.Proofs.YtjbcnppbcomaiaaGreatDoorW.PrintLast Go.Proofs.YtjbcnppbcomaiaaGreatDoorW.PrintMore
set_option linter.unusedVariables false
set_option linter.unusedSimpArgs false
theorem back_in (m : Nat) (a0 : Option Addr) (n0 c0 : Nat) (w : World) : CallsIn Fence.wide m Tryz.prog 97 #[.slice a0 n0 c0] w fun e w' =>
   e = .returned (.func (.func 106) #[] #[.pointer (some ⟨w.heap.size, 0, none⟩)]) ∧ w.alloc (.cells #[.slice a0 n0 c0] 27) = w' := by
 refine callsIn_of_wp Tryz.func97 rfl trivial ?_ rfl
 simp only [Tryz.ntmps97, List.size_toArray, List.length_cons, List.length_nil, Nat.reduceAdd, Nat.reduceSub, Array.replicate_succ, Array.replicate_zero, List.push_toArray, List.append_toArray, List.nil_append, List.cons_append]
 gi_wp2
 go_ret
 exact ⟨rfl, rfl⟩
attribute [local go_sem] Oper.semAt_some
end Go.Proofs.YtjbcnppbcomaiaaGreatDoor.Q
namespace Go.Proofs.YtjbcnppbcomaiaaGreatDoor.Q
open Go.RowKit Go.Shelf
theorem uponIn_round {F : Fence} {n : Nat} {P : Program} {o : Oper} {a : Act} {K : Act → World → Prop} {Q : Exit → Act → World → Prop} (l : Nat) {r : Result Next} (h : o.uponIn F n P a K Q r) : o.uponIn (F.inRound l) n P a K Q r := by
 unfold Oper.uponIn at h ⊢
 split at h <;> first | exact h | (split <;> first | exact h | simp_all)
theorem wpOpIn_round {F : Fence} {n : Nat} {P : Program} {ops : Array Oper} {Q : Exit → Act → World → Prop} {i : Nat} {K : Act → World → Prop} {a : Act} {w : World} (l : Nat) (hr : F.round = none)
   (hnd : ∀ (j : Nat) o, ops[j]? = some o → ∀ c, o.op ≠ .defer c) (h : wpOpIn F n P ops Q i K a w) : wpOpIn (F.inRound l) n P ops Q i K a w := by
 unfold wpOpIn at h ⊢
 split
 · rename_i e; simp only [e] at h; exact h
 · rename_i o e
   simp only [e] at h
   split
   · rename_i hw
     rw [if_pos hw] at h
     refine ⟨h.1, ?_⟩
     have h2 := h.2
     rw [Oper.semAt_plain F _ _ (hnd i o e)] at h2
     rw [Oper.semAt_plain (F.inRound l) _ _ (hnd i o e)]
     exact uponIn_round l h2
   · rename_i hw
     rw [if_neg hw] at h
     exact h
theorem wpAnyIn_round {F : Fence} {n : Nat} {P : Program} {md : Region.Mode} {ops : Array Oper} {Q : Exit → Act → World → Prop} (l : Nat) (hr : F.round = none) (hnd : ∀ (j : Nat) o, ops[j]? = some o → ∀ c, o.op ≠ .defer c) :
   ∀ (fuel : Nat) (listed : Array Bool) (a : Act) (w : World), wpAnyIn F n P md ops Q fuel listed a w → wpAnyIn (F.inRound l) n P md ops Q fuel listed a w
 | 0, _, _, _, h => h
 | fuel + 1, listed, a, w, h => ⟨h.1, fun i hi => wpOpIn_round l hr hnd (wpOpIn_mono (fun a' w' h' => wpAnyIn_round l hr hnd fuel _ a' w' h') (h.2 i hi))⟩
end Go.Proofs.YtjbcnppbcomaiaaGreatDoor.Q
namespace Go.Proofs.YtjbcnppbcomaiaaGreatDoor.Q
open Go.RowKit Go.Shelf Go.Proofs.YtjbcnppbcomaiaaGreatDoorW.PrintWords Go.Proofs.YtjbcnppbcomaiaaGreatDoorW.PrintLast
theorem uponIn_of {n : Nat} {P : Program} {o : Oper} {a : Act} {K : Act → World → Prop} {Q : Exit → Act → World → Prop} {r : Result Next} (h : o.upon P a K Q r) : o.uponIn Fence.wide n P a K Q r := by
 unfold Oper.upon at h
 split at h
 · exact h
 · exact h
 · exact h
 · exact ⟨fun h => (by cases h), callsIn_wide.2 h⟩
 · exact ⟨fun h => (by cases h), fun c cs _ => let ⟨v, w', r, s⟩ := h c cs; ⟨v, w', r, stepsIn_wide.2 s⟩⟩
 · exact h
 · exact h.elim
theorem wpOpIn_of {n : Nat} {P : Program} {ops : Array Oper} {Q : Exit → Act → World → Prop} {i : Nat} {K : Act → World → Prop} {a : Act} {w : World} (hno : ¬ LetsOut Q) (h : wpOp P ops Q i K a w) : wpOpIn Fence.wide n P ops Q i K a w := by
 unfold wpOp at h
 unfold wpOpIn
 split
 · rename_i e; simp only [e] at h; exact h
 · rename_i o e
   simp only [e] at h
   split
   · rename_i hw
     rw [if_pos hw] at h
     rcases h with h | h
     · exact ⟨fun _ _ => trivial, uponIn_of h⟩
     · exact absurd h.2 hno
   · rename_i hw
     rw [if_neg hw] at h
     exact ⟨fun _ _ => trivial, h⟩
theorem wpAnyIn_of {n : Nat} {P : Program} {md : Region.Mode} {ops : Array Oper} {Q : Exit → Act → World → Prop} (hno : ¬ LetsOut Q) :
   ∀ (fuel : Nat) (listed : Array Bool) (a : Act) (w : World), wpAny P md ops Q fuel listed a w → wpAnyIn Fence.wide n P md ops Q fuel listed a w
 | 0, _, _, _, h => h
 | fuel + 1, _, _, _, h => ⟨h.1, fun i hi => wpOpIn_mono (fun a' w' h' => wpAnyIn_of hno fuel _ a' w' h') (wpOpIn_of hno (h.2 i hi))⟩
def noDefer (ops : Array Oper) : Bool := ops.all fun o => match o.op with | .defer _ => false | _ => true
theorem noDefer_spec {ops : Array Oper} (h : noDefer ops = true) : ∀ (j : Nat) o, ops[j]? = some o → ∀ c, o.op ≠ .defer c := by
 intro j o hj c hc
 have h1 := (Array.all_eq_true_iff_forall_mem.1 h) o (Array.mem_of_getElem? hj)
 simp [hc] at h1
theorem startIn_ {P : Program} {ops : Array Oper} {Q : Exit → Act → World → Prop} {S : World → Prop} {ds : List Nat} {id n m l : Nat} {a : Act} {w : World} (ls : Array Bool) (hm : P.follows .mixedOrders = true) (hnd : noDefer ops = true) (hno : ¬ LetsOut Q) (hn : ops.size = n) (hl : Array.replicate n false = ls) (hS : S w.drew)
   (h : S w.drew → wpAnyLast P .any ops Q S ds n ls a w.drew) : (Code.region id ops true).wpIn (Fence.wide.inRound l) m P Q a w := by
 subst hn
 subst hl
 exact wpIn_region_any hm (wpAnyIn_round l rfl (noDefer_spec hnd) _ _ _ _ (wpAnyIn_of hno _ _ _ _ (wpAny_of_last _ _ _ _ (h hS))))
end Go.Proofs.YtjbcnppbcomaiaaGreatDoor.Q
namespace Go.Proofs.YtjbcnppbcomaiaaGreatDoor.Q
open Go.RowKit Go.Shelf Go.Proofs.YtjbcnppbcomaiaaGreatDoorW.PrintWords Go.Proofs.YtjbcnppbcomaiaaGreatDoorW.PrintLast Go.Proofs.YtjbcnppbcomaiaaGreatDoorW.PrintMore
set_option linter.unusedVariables false
set_option linter.unusedSimpArgs false
attribute [local go_sem] Oper.semAt_some
theorem or_sh32 {a b : Int} (h0 : 0 ≤ a) (h1 : a < 4294967296) (g0 : 0 ≤ b) (g1 : b < 4294967296) : Go.bits .or .u64 (a * 4294967296) b = a * 4294967296 + b := by
 obtain ⟨m, rfl⟩ := Int.eq_ofNat_of_zero_le h0
 obtain ⟨n, rfl⟩ := Int.eq_ofNat_of_zero_le g0
 have e : Go.bits .or .u64 ((m : Int) * 4294967296) (n : Int) = IntKind.u64.wrap ((BitVec.ofInt 64 ((m : Int) * 4294967296) ||| BitVec.ofInt 64 (n : Int)).toNat : Int) := rfl
 have e1 : (m : Int) * 4294967296 = ((m * 4294967296 : Nat) : Int) := by omega
 rw [e, e1, BitVec.ofInt_natCast, BitVec.ofInt_natCast, BitVec.toNat_or, BitVec.toNat_ofNat, BitVec.toNat_ofNat, Nat.mod_eq_of_lt (by omega), Nat.mod_eq_of_lt (by omega)]
 have h2 : m * 4294967296 ||| n = m * 4294967296 + n := by
   have := Nat.two_pow_add_eq_or_of_lt (i := 32) (b := n) (by omega) m
   rw [Nat.mul_comm m]
   exact this.symm
 rw [h2]
 simp only [IntKind.wrap, IntKind.bits, IntKind.signed]
 simp
 omega
theorem quo_lt {r x m : Int} (h0 : 0 ≤ r) (h1 : r < m) (hx0 : 0 ≤ x) (hx : x < 4294967296) : 0 ≤ (r * 4294967296 + x) / m ∧ (r * 4294967296 + x) / m < 4294967296 := by
 have hm : 0 < m := by omega
 refine ⟨Int.ediv_nonneg (by omega) (by omega), Int.ediv_lt_of_lt_mul hm ?_⟩
 have : (r + 1) * 4294967296 ≤ m * 4294967296 := Int.mul_le_mul_of_nonneg_right (by omega) (by omega)
 rw [Int.mul_comm 4294967296 m]
 omega
theorem div32_calls (r x m : Int) (h0 : 0 ≤ r) (h1 : r < m) (hx0 : 0 ≤ x) (hx : x < 4294967296) (hm : m < 4294967296) (w : World) :
   Calls Tryz.prog 98 #[.int .u32 r, .int .u32 x, .int .u32 m] w fun e w' => e = .returned (.tuple #[.int .u32 ((r * 4294967296 + x) / m), .int .u32 ((r * 4294967296 + x) % m)]) ∧ Drawn0 w w' := by
 have hne : ((m == 0) = false) := beq_eq_false_iff_ne.mpr (by omega)
 have hne2 : ((m != 0) = true) := bne_iff_ne.mpr (by omega)
 have hle : decide (m ≤ r) = false := decide_eq_false (by omega)
 obtain ⟨q0, q1⟩ := quo_lt h0 h1 hx0 hx
 have m0 := Int.emod_nonneg (r * 4294967296 + x) (show m ≠ 0 by omega)
 have m1 := Int.emod_lt_of_pos (r * 4294967296 + x) (show 0 < m by omega)
 have e1 : IntKind.u64.wrap ((bits BinOp.or IntKind.u64 (r * 4294967296) x).tdiv m) % 4294967296 = (r * 4294967296 + x) / m := by
   rw [or_sh32 h0 (by omega) hx0 hx, Int.tdiv_eq_ediv_of_nonneg (by omega)]
   simp only [IntKind.wrap, IntKind.bits, IntKind.signed]
   simp
   omega
 have e2 : (bits BinOp.or IntKind.u64 (r * 4294967296) x).tmod m % 4294967296 = (r * 4294967296 + x) % m := by
   rw [or_sh32 h0 (by omega) hx0 hx, Int.tmod_eq_emod_of_nonneg (by omega)]
   omega
 clear q0 q1 m0 m1
 have E1 := am e1
 have E2 := am e2
 clear e1 e2
 go_enter Tryz.func98, Tryz.ntmps98
 go_wp2
 go_region
 go_wp2
 go_ret2
 refine ⟨?_, _, rfl⟩
 simp only [Array.getD_eq_getD_getElem?, List.getElem?_toArray, List.getElem?_cons_succ, List.getElem?_cons_zero, Option.getD_some, E1.out, E2.out]
def revs (n : Nat) : List (Fin n) := (List.finRange n).reverse
theorem revs_len (n : Nat) : (revs n).length = n := by simp [revs]
theorem revs_at (n k : Nat) (hk : k < n) : (revs n)[k]'(by rw [revs_len]; exact hk) = ⟨n - 1 - k, by omega⟩ := by
 simp [revs, List.getElem_reverse]
theorem revs_take (n k : Nat) (hk : k < n) : (revs n).take (k + 1) = (revs n).take k ++ [⟨n - 1 - k, by omega⟩] := by
 rw [List.take_succ_eq_append_getElem (by rw [revs_len]; exact hk), revs_at n k hk]
theorem backG_in (l Ba : Nat) (Kp : World → World → Prop) (A : Option Addr) (n cap : Nat) (xs : List Int) (hn : n < 4611686018427387904) (J Jx : List (Fin n) → World → Prop) (W : World)
   (hY : ∀ pre (y : Fin n) X, J pre X → pre.length < n → YieldAt Fence.wide 2 Tryz.prog l #[.int .i64 y.1, .int .u32 (rd xs y.1)] X fun e X' =>
     (e = .returned (.bool true) ∧ J (pre ++ [y]) X' ∧ Kp X X') ∨ (e = .returned (.bool false) ∧ Jx (pre ++ [y]) X'))
   (hK : ∀ X Y, Kp X Y → (X.cell? ⟨Ba, 0, none⟩ = some (.slice A n cap) ∧ Kd.C (Kd.int .u32) X A n xs) → Y.cell? ⟨Ba, 0, none⟩ = some (.slice A n cap) ∧ Kd.C (Kd.int .u32) Y A n xs)
   (hR : W.cell? ⟨Ba, 0, none⟩ = some (.slice A n cap) ∧ Kd.C (Kd.int .u32) W A n xs) (h0 : J [] W) :
   CallsIn Fence.wide 3 Tryz.prog 106 #[.func (.yield l) #[] #[], .pointer (some ⟨Ba, 0, none⟩)] W fun e W' => (∃ v, e = .returned v) ∧
     ((∃ ys, ys = revs n ∧ J ys W') ∨ (∃ pre, True ∧ Jx pre W')) := by
 have HY := am hY
 have HK := am hK
 have HR := am hR
 have HJ := am h0
 have hcB := hR.1
 clear hY hK hR h0
 have hw : wrap64 ((n : Int) - 1) = (n : Int) - 1 := by unfold wrap64; omega
 refine callsIn_of_wp Tryz.func106 rfl trivial ?_ rfl
 simp only [Tryz.ntmps106, List.size_toArray, List.length_cons, List.length_nil, Nat.reduceAdd, Nat.reduceSub, Array.replicate_succ, Array.replicate_zero, List.push_toArray, List.append_toArray, List.nil_append, List.cons_append]
 gi_wp2
 gi_loopw [3] (fun i wr => ∃ k : Nat, k ≤ n ∧ i = .int .i64 ((n : Int) - 1 - k) ∧ Aside0 (J ((revs n).take k) wr) ∧ Aside0 (wr.cell? ⟨Ba, 0, none⟩ = some (.slice A n cap) ∧ Kd.C (Kd.int .u32) wr A n xs))
   (fun i _ => (intOf i + 1).toNat)
 case atStart => exact ⟨0, by omega, by first | rfl | (simp [hw]; done), HJ, HR⟩
 obtain ⟨k, hk, rfl, hJ, hRR⟩ := hrel
 by_cases he : k = n
 · subst he
   have hneg : decide (0 ≤ (k : Int) - 1 - k) = false := decide_eq_false (by omega)
   gi_wp2
   go_end0
   have hJ2 := hJ.out
   rw [List.take_of_length_le (by rw [revs_len]; omega)] at hJ2
   exact ⟨⟨_, rfl⟩, .inl ⟨_, rfl, hJ2⟩⟩
 have hjk : (n : Int) - 1 - k = ((n - 1 - k : Nat) : Int) := by omega
 have hj2 : n - 1 - k < n := by omega
 obtain ⟨fn, tmps, assign, body, hy, hRd⟩ := HY.out ((revs n).take k) ⟨n - 1 - k, hj2⟩ _ hJ.out (by rw [List.length_take, revs_len]; omega)
 have HRd : Aside0 (RoundIn Fence.wide 2 Tryz.prog l fn tmps assign body _ fun e X' => ∃ t : Bool, e = .returned (.bool t) ∧ ((t = true ∧ J ((revs n).take (k + 1)) X' ∧ X'.cell? ⟨Ba, 0, none⟩ = some (.slice A n cap) ∧ Kd.C (Kd.int .u32) X' A n xs) ∨ (t = false ∧ ∃ pre, Jx pre X'))) := ⟨hRd.mono (by
   rintro e X' (⟨rfl, h1, h2⟩ | ⟨rfl, h1⟩)
   · exact ⟨true, rfl, .inl ⟨rfl, by rw [revs_take n k (by omega)]; exact h1, HK.out _ _ h2 hRR.out⟩⟩
   · exact ⟨false, rfl, .inr ⟨rfl, _, h1⟩⟩)⟩
 clear hRd HK
 have hcB2 := hRR.out.1
 obtain ⟨ad, e1, hx⟩ := Kd.at_int hRR.out.2 ((n - 1 - k : Nat) : Int) (by omega) (by omega)
 subst e1
 rw [hjk]
 simp only [Int.toNat_natCast] at hx
 have hlt : decide (((n - 1 - k : Nat) : Int) < (n : Int)) = true := decide_eq_true (by omega)
 generalize n - 1 - k = j at *
 gi_wp2_with ((with_reducible refine HRd.out.mono ?_); rintro e X' ⟨t, rfl, ht⟩; have HT := am ht; clear ht)
 all_goals
   rcases HT.out with ⟨rfl, hJ3⟩ | ⟨rfl, hJ3⟩
 all_goals first
   | exact absurd ‹(!true) = true› (by decide)
   | exact absurd ‹(!false) = false› (by decide)
   | exact ⟨⟨k + 1, by omega, congrArg (Value.int .i64) (by omega), ⟨hJ3.1⟩, ⟨hJ3.2⟩⟩, by show ((j : Int) - 1 + 1).toNat < ((j : Int) + 1).toNat; omega⟩
   | (refine bodyPost_ret (results_none rfl _ _ _) rfl ?_
      exact ⟨⟨_, rfl⟩, .inr (let ⟨pre_, h_⟩ := hJ3; ⟨pre_, trivial, h_⟩)⟩)
theorem make_n (n : Nat) (h0 : 0 < n) (hn : n ≤ 70368744177664) (w : World) : (Instr.makeSlice 27 (.int .i64 n) (.int .i64 n)).run Tryz.prog w = .ok (.slice (some ⟨w.heap.size, 0, none⟩) n n) (w.alloc (.cells (Array.replicate n (Value.int .u32 0)) 23)) := by
 have h := run_make_row' (P := Tryz.prog) 27 23 (.int .u32 0) 4 Tryz.underlying27 info23 rfl .i64 .i64 n (by omega) (by omega) w
 rw [show madeCells #[Value.int .u32 0] n = (Array.replicate n (Value.int .u32 0)) from by
   apply Array.ext
   · simp [madeCells]
   · intro i h1 h2
     simp [madeCells]
     have : i % 1 = 0 := by omega
     simp [this]] at h
 exact h
def smStep (xs : List Int) (p : Int) (s : List Int × Int) (i : Nat) : List Int × Int := (s.1.set i ((s.2 * 4294967296 + rd xs i) / p), (s.2 * 4294967296 + rd xs i) % p)
def smOf (xs : List Int) (p : Int) (n : Nat) (pre : List (Fin n)) : List Int × Int := (pre.map Fin.val).foldl (smStep xs p) (List.replicate n 0, 0)
theorem smOf_snoc (xs : List Int) (p : Int) (n : Nat) (pre : List (Fin n)) (x : Fin n) : smOf xs p n (pre ++ [x]) = smStep xs p (smOf xs p n pre) x.1 := by
 simp [smOf]
theorem smOf_r (xs : List Int) (p : Int) (hp : 0 < p) (n : Nat) (pre : List (Fin n)) : 0 ≤ (smOf xs p n pre).2 ∧ (smOf xs p n pre).2 < p := by
 have h : ∀ (L : List Nat) (s : List Int × Int), 0 ≤ s.2 ∧ s.2 < p → 0 ≤ (L.foldl (smStep xs p) s).2 ∧ (L.foldl (smStep xs p) s).2 < p := by
   intro L
   induction L with
   | nil => exact fun s h => h
   | cons i L ih => exact fun s h => ih _ ⟨Int.emod_nonneg _ (by omega), Int.emod_lt_of_pos _ hp⟩
 exact h _ _ ⟨Int.le_refl _, hp⟩
structure SmG (b m : Nat) (p : Int) (o : List Int) (r : Int) (X : World) : Prop where
 hp : Boxed X b 23 (.int .u32 p)
 hg : X.heap[b + 1]? = some (.cells (o.map (Value.int .u32)).toArray 23 (0, 0))
 ho : Boxed X (b + 2) 27 (.slice (some ⟨b + 1, 0, none⟩) m m)
 hr : Boxed X (b + 3) 23 (.int .u32 r)
 hl : o.length = m
theorem SmG.kept {b m : Nat} {p : Int} {o : List Int} {r : Int} {X Y : World} {row : Option Nat} (h : SmG b m p o r X) (hg : X.grownBy Y row) (hr : ∀ b, row = some b → ∃ o : Obj, X.heap[b]? = some o ∧ o.isCells = false) : SmG b m p o r Y :=
 ⟨box_kept h.hp hg hr, (hg.block (b + 1) ((Array.getElem?_eq_some_iff.1 h.hg).1) (fun e => by
   obtain ⟨o', h1, h2⟩ := hr _ e.symm
   rw [h.hg] at h1
   cases h1
   cases h2)).trans h.hg, box_kept h.ho hg hr, box_kept h.hr hg hr, h.hl⟩
theorem SmG.drawn {b m : Nat} {p : Int} {o : List Int} {r : Int} {X w2 : World} (h : SmG b m p o r X) (hd : Drawn0 X w2) : SmG b m p o r w2 := by
 obtain ⟨nd, rfl⟩ := hd
 exact h.kept (grownBy_drewN _ nd none) (fun _ e => by cases e)
theorem SmG.cells {b m : Nat} {p : Int} {o : List Int} {r : Int} {X : World} (h : SmG b m p o r X) (i : Nat) (hi : i < m) (v : Value) :
   X.cell? ⟨b + 1, i, none⟩ = some (.int .u32 (rd o i)) ∧ X.frozen? ⟨b + 1, i, none⟩ = false ∧
   (X.setCell ⟨b + 1, i, none⟩ v).cell? ⟨b + 1 + 1 + 1, 0, none⟩ = some (.int .u32 r) ∧ (X.setCell ⟨b + 1, i, none⟩ v).frozen? ⟨b + 1 + 1 + 1, 0, none⟩ = false := by
 have hl := h.hl
 have h3 : Boxed (X.setCell ⟨b + 1, i, none⟩ v) (b + 3) 23 (.int .u32 r) := (Below.heap_setCell X _ v (b + 3) (by show b + 3 ≠ b + 1; omega)).trans h.hr
 refine ⟨?_, ?_, h3.cell, h3.frozen⟩
 · simp [World.cell?, h.hg, rd, List.getD_eq_getElem?_getD, List.getElem?_eq_getElem (show i < o.length by omega)]
 · simp [World.frozen?, h.hg]
theorem SmG.step {b m : Nat} {p : Int} {o : List Int} {r : Int} {X : World} (h : SmG b m p o r X) (i : Nat) (q r' : Int) :
   SmG b m p (o.set i q) r' ((X.setCell ⟨b + 1, i, none⟩ (.int .u32 q)).setCell ⟨b + 1 + 1 + 1, 0, none⟩ (.int .u32 r')) := by
 have hs : ∀ (B : Nat) (t : TypeId) (v : Value), B ≠ b + 1 → Boxed X B t v → Boxed (X.setCell ⟨b + 1, i, none⟩ (.int .u32 q)) B t v := fun B t v hB hb => (Below.heap_setCell X _ _ B (by exact hB)).trans hb
 refine ⟨(hs _ _ _ (by omega) h.hp).other (by omega) _, ?_, (hs _ _ _ (by omega) h.ho).other (by omega) _, (hs _ _ _ (by omega) h.hr).set _, by rw [List.length_set]; exact h.hl⟩
 refine (Below.heap_setCell _ _ _ (b + 1) (by show b + 1 ≠ b + 1 + 1 + 1; omega)).trans ?_
 obtain ⟨hlt, hk⟩ := Array.getElem?_eq_some_iff.1 h.hg
 show (X.heap.modify (b + 1) _)[b + 1]? = _
 rw [Array.getElem?_eq_getElem (by rw [Array.size_modify]; exact hlt), Array.getElem_modify_self, hk]
 simp [List.map_set]
def KpS (b : Nat) (X Y : World) : Prop := ∀ k, k < b + 5 → k ≠ b + 1 → k ≠ b + 3 → Y.heap[k]? = X.heap[k]?
theorem C_same {X Y : World} {ad : Addr} {n : Nat} {xs : List Int} (h : Kd.C (Kd.int .u32) X (some ad) n xs) (e : Y.heap[ad.block]? = X.heap[ad.block]?) : Kd.C (Kd.int .u32) Y (some ad) n xs := by
 obtain ⟨hl, hm, hn⟩ := h
 refine ⟨hl, hm, fun hp => ?_⟩
 obtain ⟨ad', e', hj⟩ := hn hp
 cases e'
 refine ⟨ad, rfl, fun j p hjp => ?_⟩
 obtain ⟨cs, h1, h2, h3⟩ := hj j p hjp
 refine ⟨cs, h1, h2, fun i u hu => ?_⟩
 have h4 := h3 i u hu
 simpa [World.cell?, add_block, e] using h4
def div_Small.T8g : Bool × List (List Nat × List Nat) := (true, [([], []), ([], []), ([], []), ([], []), ([], []), ([2, 3, 4], [2, 3, 4]), ([5], [5]), ([6], [6]), ([6], [6]), ([0, 1, 0, 1, 2, 3, 4, 5, 6, 7], [0, 1]), ([9, 7, 5, 0, 1, 2, 3, 4, 5, 6, 7], [7, 9]), ([8, 10, 0, 1, 2, 3, 4, 5, 6, 7, 8, 9, 10], [8])])
def div_Small.B8g : List Nat := [0, 0, 0, 0, 0, 28, 60, 124, 124, 255, 767, 2047]
theorem div_Small.tab8g : rtab .any (opsOf Tryz.f74 8) = div_Small.T8g := by kernel_rfl
theorem div_Small.bits8g : waitsOk div_Small.T8g.2 div_Small.B8g = true := by kernel_rfl
theorem make_calls_n (kk n c : Nat) (A : Option Addr) (o mk : List Int) (W : World) (hl : o.length = n) (hC : Kd.C (Kd.int .u32) W A n o) (hc : n ≤ c) (h : nat_Make.f kk o = some mk) :
   Calls Tryz.prog 72 #[.slice A n c] W fun e w' => ∃ v0_ : Value, e = .returned v0_ ∧ Kd.R (Kd.int .u32) 23 w' W.heap.size (fun _ => True) v0_ mk ∧ Below W.heap.size W w' := by
 subst hl
 exact nat_Make.calls kk A c o mk W hC hc h
def onlyN (Q : Exit → Act → World → Prop) : Exit → Act → World → Prop
 | .normal, a, w => Q .normal a w
 | _, _, _ => False
theorem only_normal {F : Fence} {n : Nat} {P : Program} {c : Code} {Q : Exit → Act → World → Prop} {a : Act} {w : World} (h : c.wpIn F n P (onlyN Q) a w) : c.wpIn F n P Q a w :=
 wpIn_mono h (by
   intro e a w h
   cases e <;> first | exact h | exact h.elim)
theorem SmG.held {b n : Nat} {p : Int} {o : List Int} {r : Int} {w W X w2 : World} (h : SmG b n p o r X ∧ Below b w X ∧ KeepsOthers W X ∧ KpS b W X) (hd : Drawn0 X w2) : SmG b n p o r w2 ∧ Below b w w2 ∧ KeepsOthers W w2 ∧ KpS b W w2 := by
 have h1 := h.1.drawn hd
 obtain ⟨nd, rfl⟩ := hd
 exact ⟨h1, h.2.1.trans ⟨rfl, rfl, rfl, Nat.le_refl _, fun _ _ => rfl⟩, h.2.2.1.trans ⟨Nat.le_refl _, fun _ _ hh _ => hh⟩, h.2.2.2⟩
theorem SmG.fin {b n : Nat} {p : Int} {o : List Int} {r : Int} {w W w2 : World} (h : SmG b n p o r w2 ∧ Below b w w2 ∧ KeepsOthers W w2 ∧ KpS b W w2) (i : Nat) (q r' : Int) (B : Nat) :
   KeepsOthers W ((w2.setCell ⟨b + 1, i, none⟩ (.int .u32 q)).setCell ⟨b + 1 + 1 + 1, 0, none⟩ (.int .u32 r')) ∧ KpS b W ((w2.setCell ⟨b + 1, i, none⟩ (.int .u32 q)).setCell ⟨b + 1 + 1 + 1, 0, none⟩ (.int .u32 r')) ∧
   SmG b n p (o.set i q) r' ((w2.setCell ⟨b + 1, i, none⟩ (.int .u32 q)).setCell ⟨b + 1 + 1 + 1, 0, none⟩ (.int .u32 r')) ∧ Below b w ((w2.setCell ⟨b + 1, i, none⟩ (.int .u32 q)).setCell ⟨b + 1 + 1 + 1, 0, none⟩ (.int .u32 r')) := by
 refine ⟨h.2.2.1.trans ((KeepsOthers.setCell _ _ _).trans (KeepsOthers.setCell _ _ _)), fun k hk h1 h3 => ?_, h.1.step i q r', Below.setCell (p := ⟨b + 1 + 1 + 1, 0, none⟩) (Below.setCell h.2.1 (by simp) _) (by simp; omega) _⟩
 exact (Below.heap_setCell _ _ _ k (by show k ≠ b + 1 + 1 + 1; omega)).trans ((Below.heap_setCell _ _ _ k (by exact h1)).trans (h.2.2.2 k hk h1 h3))
attribute [local go_sem] make_n
theorem smallG_in (xs : List Int) (p : Int) (n : Nat) (hp : 0 < p) (hp2 : p < 4294967296) (hx : ∀ x ∈ xs, 0 ≤ x ∧ x < 4294967296) (hn0 : 0 < n) (hn : n ≤ 70368744177664) (mk : List Int) (kk : Nat) (hmk : nat_Make.f kk (smOf xs p n (revs n)).1 = some mk)
   (A : Option Addr) (c : Nat) (w : World) (hC : Kd.C (Kd.int .u32) w A n xs) :
   CallsIn Fence.wide 4 Tryz.prog 74 #[.slice A n c, .int .u32 p] w fun e w' => ∃ v0_ : Value, e = .returned (.tuple #[v0_, .int .u32 (smOf xs p n (revs n)).2, .int .i64 0]) ∧ Kd.R (Kd.int .u32) 23 w' w.heap.size (fun _ => True) v0_ mk ∧ Below w.heap.size w w' := by
 have HMK := am hmk
 have HP := am hp
 have HP2 := am hp2
 have HX := am hx
 have HN := am hn
 have hmake := make_n n hn0 hn
 have hpe : ((p == 0) = false) := beq_eq_false_iff_ne.mpr (by omega)
 obtain ⟨ad, rfl, hadlt⟩ : ∃ ad, A = some ad ∧ ad.block < w.heap.size := by
   obtain ⟨ad, e, h1⟩ := Kd.at_int hC 0 (by decide) (by omega)
   exact ⟨ad, e, by have := World.block_lt_of_cell? _ _ h1; rwa [add_block] at this⟩
 have HAD := am hadlt
 have HN0 := am hn0
 have HCC := am hC
 clear hmk hx hp hp2 hn hn0 hadlt hC
 refine callsIn_of_wp_marks Tryz.func74 rfl trivial ?_ rfl
 simp only [Tryz.ntmps74, List.size_toArray, List.length_cons, List.length_nil, Nat.reduceAdd, Nat.reduceSub, Array.replicate_succ, Array.replicate_zero, List.push_toArray, List.append_toArray, List.nil_append, List.cons_append]
 gi_wp2_with (refine ⟨trivial, ?_⟩; gi_at_call 97; (with_reducible refine CallsIn.mono (back_in _ _ _ _ _) ?_); rintro e w' ⟨rfl, rfl⟩)
 clear hmake
 have hz : (((((w.alloc (.cells #[.int .u32 p] 23)).alloc (.cells (Array.replicate n (Value.int .u32 0)) 23)).alloc (.cells #[.slice (some ⟨w.heap.size + 1, 0, none⟩) n n] 27)).alloc (.cells #[.int .u32 0] 23)).alloc (.cells #[.slice (some ad) n c] 27)).heap.size = w.heap.size + 5 := by simp
 have hbW : Below w.heap.size w (((((w.alloc (.cells #[.int .u32 p] 23)).alloc (.cells (Array.replicate n (Value.int .u32 0)) 23)).alloc (.cells #[.slice (some ⟨w.heap.size + 1, 0, none⟩) n n] 27)).alloc (.cells #[.int .u32 0] 23)).alloc (.cells #[.slice (some ad) n c] 27)) := below_alloc (below_alloc (below_alloc (below_alloc (below_alloc (Below.refl w.heap.size w) _) _) _) _) _
 have hI0 : SmG w.heap.size n p (smOf xs p n []).1 (smOf xs p n []).2 (((((w.alloc (.cells #[.int .u32 p] 23)).alloc (.cells (Array.replicate n (Value.int .u32 0)) 23)).alloc (.cells #[.slice (some ⟨w.heap.size + 1, 0, none⟩) n n] 27)).alloc (.cells #[.int .u32 0] 23)).alloc (.cells #[.slice (some ad) n c] 27)) := by
   refine ⟨((((Boxed.new w 23 _).alloc _).alloc _).alloc _).alloc _, ?_, ?_, ?_, by simp [smOf]⟩
   · have h := World.alloc_heap_new (w.alloc (.cells #[.int .u32 p] 23)) (.cells (Array.replicate n (Value.int .u32 0)) 23)
     rw [World.size_alloc] at h
     have e0 : ((smOf xs p n []).1.map (Value.int .u32)).toArray = (Array.replicate n (Value.int .u32 0)) := by simp [smOf]
     rw [e0]
     exact (Below.heap_alloc _ _ _ (by simp)).trans ((Below.heap_alloc _ _ _ (by simp)).trans ((Below.heap_alloc _ _ _ (by simp)).trans h))
   · have h := Boxed.new ((w.alloc (.cells #[.int .u32 p] 23)).alloc (.cells (Array.replicate n (Value.int .u32 0)) 23)) 27 (.slice (some ⟨w.heap.size + 1, 0, none⟩) n n)
     rw [World.size_alloc, World.size_alloc] at h
     exact (h.alloc _).alloc _
   · have h := Boxed.new (((w.alloc (.cells #[.int .u32 p] 23)).alloc (.cells (Array.replicate n (Value.int .u32 0)) 23)).alloc (.cells #[.slice (some ⟨w.heap.size + 1, 0, none⟩) n n] 27)) 23 (.int .u32 0)
     rw [World.size_alloc, World.size_alloc, World.size_alloc] at h
     exact h.alloc _
 have hb4 : Boxed (((((w.alloc (.cells #[.int .u32 p] 23)).alloc (.cells (Array.replicate n (Value.int .u32 0)) 23)).alloc (.cells #[.slice (some ⟨w.heap.size + 1, 0, none⟩) n n] 27)).alloc (.cells #[.int .u32 0] 23)).alloc (.cells #[.slice (some ad) n c] 27)) (w.heap.size + 4) 27 (.slice (some ad) n c) := by
   have h := Boxed.new ((((w.alloc (.cells #[.int .u32 p] 23)).alloc (.cells (Array.replicate n (Value.int .u32 0)) 23)).alloc (.cells #[.slice (some ⟨w.heap.size + 1, 0, none⟩) n n] 27)).alloc (.cells #[.int .u32 0] 23)) 27 (.slice (some ad) n c)
   rw [World.size_alloc, World.size_alloc, World.size_alloc, World.size_alloc] at h
   exact h
 generalize (((((w.alloc (.cells #[.int .u32 p] 23)).alloc (.cells (Array.replicate n (Value.int .u32 0)) 23)).alloc (.cells #[.slice (some ⟨w.heap.size + 1, 0, none⟩) n n] 27)).alloc (.cells #[.int .u32 0] 23)).alloc (.cells #[.slice (some ad) n c] 27)) = W1 at hz hbW hI0 hb4 ⊢
 have hC1 : Kd.C (Kd.int .u32) W1 (some ad) n xs := C_same HCC.out (hbW.block ad.block HAD.out)
 have hts : SeqStopsK Fence.wide 3 Tryz.prog 106 #[.pointer (some ⟨w.heap.size + 1 + 1 + 1 + 1, 0, none⟩)] (fun y : Fin n => #[Value.int .i64 y.1, Value.int .u32 (rd xs y.1)]) (KpS w.heap.size) (fun ys => ys = revs n) (fun _ => True) n W1 := fun l J Jx X hX hJ _ hY h0 =>
   backG_in l (w.heap.size + 4) (KpS w.heap.size) (some ad) n c xs (by have := HN.out; omega) J Jx X hY
     (fun P Q hPQ hp => ⟨by
       have := hPQ (w.heap.size + 4) (by omega) (by omega) (by omega)
       have h := hp.1
       simp only [World.cell?] at h ⊢
       rw [this]
       exact h, C_same hp.2 (by have := HAD.out; exact hPQ ad.block (by omega) (by omega) (by omega))⟩)
     ⟨(hX.cell (p := ⟨w.heap.size + 4, 0, none⟩) (by simp; omega)).trans hb4.cell, C_same hC1 (hX.block ad.block (by have := HAD.out; omega))⟩ h0
 refine wpIn_rangeFunc_ownG (F := Fence.wide) rfl (by omega) (gf := 106) (lb := #[.pointer (some ⟨w.heap.size + 1 + 1 + 1 + 1, 0, none⟩)]) rfl trivial (enters_of Tryz.func106 (by kernel_rfl) rfl)
   hts (fun h1 h2 k a b c => (h2 k a b c).trans (h1 k a b c)) (fun W l o o' hl _ _ _ k hk _ _ => by
     have hl2 : w.heap.size + 5 ≤ l := by rw [← hz]; exact hl
     show (W.heap.setIfInBounds l o')[k]? = _
     rw [Array.getElem?_setIfInBounds_ne (by omega)]) (Below.refl _ _) (fun _ => rfl)
   (fun pre W => SmG w.heap.size n p (smOf xs p n pre).1 (smOf xs p n pre).2 W ∧ Below w.heap.size w W)
   (fun _ _ _ => False)
   (OwnFrom.and (Own.from (fun s A B row hs hg hr => hs.kept hg hr) _) (ownFrom_below (Nat.le_refl _) (by omega)))
   (fun _ _ _ _ _ hs _ _ => hs)
   ⟨hI0, hbW⟩
   (fun x => { tmps := #[Value.slice (some ad) n c, Value.int IntKind.u32 p, undef, Value.pointer (some { block := w.heap.size, off := 0 }), Value.slice none 0 0, Value.int IntKind.u32 0, Value.int IntKind.i64 0, Value.pointer (some { block := w.heap.size + 1 + 1, off := 0 }), Value.pointer (some { block := w.heap.size + 1 + 1 + 1, off := 0 }), Value.int IntKind.i64 x.1, Value.int IntKind.u32 (rd xs x.1), Value.int IntKind.u32 p, Value.bool false, Value.slice (some ad) n c, Value.int IntKind.i64 n, Value.slice (some { block := w.heap.size + 1, off := 0 }) n n, Value.slice (some ad) n c, Value.func (Fn.func 106) #[] #[Value.pointer (some { block := w.heap.size + 1 + 1 + 1 + 1, off := 0 })], Value.int IntKind.i64 x.1, Value.int IntKind.u32 (rd xs x.1), undef, undef, undef, undef, undef, undef, undef, undef, undef, undef, undef, undef, undef], defers := [] }) ?assign ?body ?done ?stop
 case assign =>
   intro l y W K hK
   clear hts hI0 hb4
   gi_wp2
   exact hK
 case body =>
   rintro l pre x W ⟨hI, hB⟩ hlt
   clear hts hI0 hb4 hbW
   have hmx : Tryz.prog.follows .mixedOrders = true := by kernel_rfl
   have HR := am (smOf_r xs p HP.out n pre)
   have HXX : Aside0 (0 ≤ rd xs x.1 ∧ rd xs x.1 < 4294967296) := ⟨by
     unfold rd
     rw [List.getD_eq_getElem?_getD]
     cases hq : xs[(x.1 : Int).toNat]? with
     | none => exact ⟨by decide, by decide⟩
     | some y => exact HX.out y (List.mem_of_getElem? hq)⟩
   have HE : Aside0 (smOf xs p n (pre ++ [x]) = ((smOf xs p n pre).1.set x.1 (((smOf xs p n pre).2 * 4294967296 + rd xs x.1) / p), ((smOf xs p n pre).2 * 4294967296 + rd xs x.1) % p)) := ⟨smOf_snoc xs p n pre x⟩
   generalize (smOf xs p n pre).1 = o at hI HE
   generalize (smOf xs p n pre).2 = r at hI HE HR
   have hS0 : SmG w.heap.size n p o r W.drew ∧ Below w.heap.size w W.drew ∧ KeepsOthers W W.drew ∧ KpS w.heap.size W W.drew := ⟨hI.drawn ⟨1, rfl⟩, hB.drew, KeepsOthers.drew W, fun _ _ _ _ => rfl⟩
   clear hI hB hlt
   gi_wp2
   refine startIn_ (n := 12) (S := fun w' => SmG w.heap.size n p o r w' ∧ Below w.heap.size w w' ∧ KeepsOthers W w' ∧ KpS w.heap.size W w') (ds := [10, 11]) (bm 12 0) (by assumption) (by kernel_rfl) (fun ⟨_, _, h_⟩ => h_) rfl rfl hS0 (fun hHeld => ?_); refine with_tabW div_Small.tab8g div_Small.bits8g (fun HT_ HW_ => ?_)
   generalize W.drew = wd at hHeld ⊢
   refine pureB (N := some 22) 1 (bm 12 2) ?_
   refine pureB (N := some 24) 3 (bm 12 10) ?_
   refine take_ (i := 0) (N := some 21) (v := ?_) (a' := ?_) (bm 12 11) rfl rfl (take_ofW HT_.out HW_.out (by kernel_rfl)) (fun _ _ _ h => h) (Or.inl ⟨by rfl, ?_⟩) hHeld ?_ ?_
   rotate_left
   · intro w' hS_
     have q_ : w'.cell? ⟨w.heap.size + 1 + 1, 0, none⟩ = some (.slice (some ⟨w.heap.size + 1, 0, none⟩) n n) := hS_.1.ho.cell
     go_simp
     with_reducible rfl
   rotate_left
   · exact actp
   refine take_ (i := 2) (N := some 23) (v := ?_) (a' := ?_) (bm 12 15) rfl rfl (take_ofW HT_.out HW_.out (by kernel_rfl)) (fun _ _ _ h => h) (Or.inl ⟨by rfl, ?_⟩) hHeld ?_ ?_
   rotate_left
   · intro w' hS_
     have q_ : w'.cell? ⟨w.heap.size + 1 + 1 + 1, 0, none⟩ = some (.int .u32 r) := hS_.1.hr.cell
     go_simp
     with_reducible rfl
   rotate_left
   · exact actp
   refine take_ (i := 4) (N := some 25) (v := ?_) (a' := ?_) (bm 12 31) rfl rfl (take_ofW HT_.out HW_.out (by kernel_rfl)) (fun _ _ _ h => h) (Or.inl ⟨by rfl, ?_⟩) hHeld ?_ ?_
   rotate_left
   · intro w' hS_
     have q_ : w'.cell? ⟨w.heap.size, 0, none⟩ = some (.int .u32 p) := hS_.1.hp.cell
     go_simp
     with_reducible rfl
   rotate_left
   · exact actp
   refine one_ (i := 5) (N := some 26) (bm 12 63) rfl rfl (one_of HT_.out (by kernel_rfl)) (by decide) (fun K hK => ?_)
   refine goes_ Tryz.func98 (by kernel_rfl) rfl #[.int .u32 r, .int .u32 (rd xs x.1), .int .u32 p] (by rfl) rfl rfl aM ?_
   (with_reducible refine (div32_calls r (rd xs x.1) p HR.out.1 HR.out.2 HXX.out.1 HXX.out.2 HP2.out _).mono ?_)
   rintro e2 w2 ⟨rfl, hd2⟩
   refine ⟨_, rfl, ?_⟩
   have hS2 := SmG.held hHeld hd2
   refine hK.out _ _ hS2 (fun hHeld2 => ?_)
   clear hK K hHeld
   refine norm_ (a' := ?_) ?_ ?_
   rotate_left
   · show Act.put _ (some 26) _ = _; exact actp
   refine pureB (N := some 20) 6 (bm 12 127) ?_
   refine pureB (N := some 27) 7 (bm 12 255) ?_
   refine pureB (N := some 28) 8 (bm 12 511) ?_
   refine pureB (N := some 29) 9 (bm 12 1023) ?_
   obtain ⟨hcg, hfg, hcr2, hfr⟩ := hHeld2.1.cells x.1 x.2 (.int .u32 ((r * 4294967296 + rd xs x.1) / p))
   have hxn : decide ((x.1 : Int) < (n : Int)) = true := decide_eq_true (by have := x.2; omega)
   refine last_ (i := 10) (N := none) (bm 12 2047) rfl rfl (one_of HT_.out (by kernel_rfl)) (by decide) (fun K hK => ?_)
   refine skip_ (w1 := ?_) (by rfl) rfl ?_ ?_
   rotate_left
   · go_simp
     rfl
   refine hK.out _ _ ?_
   clear hK K
   refine last_ (i := 11) (N := none) (bm 12 4095) rfl rfl (one_of HT_.out (by kernel_rfl)) (by decide) (fun K hK => ?_)
   refine skip_ (w1 := ?_) (by rfl) rfl ?_ ?_
   rotate_left
   · go_simp
     rfl
   refine hK.out _ _ ?_
   clear hK K
   refine done_ (done_of HT_.out (by kernel_rfl)) ?_
   have hf := SmG.fin hHeld2 x.1 ((r * 4294967296 + rd xs x.1) / p) ((r * 4294967296 + rd xs x.1) % p) W.heap.size
   refine ⟨KeepsOthers.from hf.1 _, hf.2.1, ?_⟩
   show SmG w.heap.size n p (smOf xs p n (pre ++ [x])).1 (smOf xs p n (pre ++ [x])).2 _ ∧ _
   rw [HE.out]
   exact hf.2.2
 case done =>
   rintro D ys W hD rfl ⟨hI, hB⟩ hK
   clear hts hI0 hb4 hbW
   have hmx : Tryz.prog.follows .mixedOrders = true := by kernel_rfl
   generalize (smOf xs p n (revs n)).1 = o at hI HMK
   obtain ⟨r, hre⟩ : ∃ r, (smOf xs p n (revs n)).2 = r := ⟨_, rfl⟩
   rw [hre] at hI
   have HRR := am hre
   clear hre
   have hco : W.drew.cell? ⟨w.heap.size + 1 + 1, 0, none⟩ = some (.slice (some ⟨w.heap.size + 1, 0, none⟩) n n) := hI.ho.cell
   have hcr : W.drew.cell? ⟨w.heap.size + 1 + 1 + 1, 0, none⟩ = some (.int .u32 r) := hI.hr.cell
   have hC : Kd.C (Kd.int .u32) W.drew (some ⟨w.heap.size + 1, 0, none⟩) n o := by
     have h := C_block (Kd.int .u32) (w := W.drew) (g := w.heap.size + 1) (e := 23) (fr := (0, 0)) (xs := o) (inner := o.map (Value.int .u32)) hI.hg (reps_u _ o) (by have := hI.hl; have := HN.out; omega)
     rwa [hI.hl] at h
   have HC := am hC
   have HI := am hI
   have HB := am hB
   have HK' := am hK
   have HDD := am hD
   have HZ := am hz
   clear hI hB hK hC hD hz hC1
   gi_wp2
   refine only_normal ?_
   gi_region_with_o (first | (refine ⟨trivial, ?_⟩; gi_at_call 72; (with_reducible refine CallsIn.mono (callsIn_wide.2 (make_calls_n kk n n _ o mk _ HI.out.hl HC.out (Nat.le_refl _) HMK.out)) ?_); rintro e w4 ⟨v4, rfl, ho4, hb4⟩; have hcr4 : w4.cell? ⟨w.heap.size + 1 + 1 + 1, 0, none⟩ = some (.int .u32 r) := (hb4.cell (World.block_lt_of_cell? _ _ HI.out.hr.cell)).trans HI.out.hr.cell; have HO4 := am ho4; have HB4 := am hb4; clear ho4 hb4))
   all_goals
     unfold onlyN
     gi_wp2
     have hDlt : D < W.heap.size := (Array.getElem?_eq_some_iff.1 HK'.out).1
     have hK4 : w4.heap[D]? = some (.deferred (some [])) := (HB4.out.block D hDlt).trans HK'.out
     have hle1 : w.heap.size ≤ W.heap.size := HB.out.size
     refine ⟨by simp, .inl ⟨_, _, rfl, run_takeDeferred hK4, ?_⟩⟩
     exact ⟨_, results_tmp3 rfl _ _ _, v4, (by rw [HRR.out]; rfl), R_putObj_ (Kd.R_lower HO4.out hle1) _ hK4 rfl, (HB.out.drew.trans (HB4.out.mono hle1)).trans (belowK_b (w := w) (Nat.le_refl _) w4 D _ _ (by have := HDD.out; have := HZ.out; omega) hK4 rfl rfl)⟩
 case stop =>
   rintro D c pre W _ _ h _
   exact h.elim
theorem div_Small.calls (xs : List Int) (p : Int) (hp : 0 < p) (hp2 : p < 4294967296) (hx : ∀ x ∈ xs, 0 ≤ x ∧ x < 4294967296) (hn0 : 0 < xs.length) (hn : xs.length ≤ 70368744177664) (mk : List Int) (kk : Nat) (hmk : nat_Make.f kk (smOf xs p xs.length (revs xs.length)).1 = some mk)
   (A : Option Addr) (c : Nat) (w : World) (hC : Kd.C (Kd.int .u32) w A xs.length xs) :
   Calls Tryz.prog 74 #[.slice A xs.length c, .int .u32 p] w fun e w' => ∃ v0_ : Value, e = .returned (.tuple #[v0_, .int .u32 (smOf xs p xs.length (revs xs.length)).2, .int .i64 0]) ∧ Kd.R (Kd.int .u32) 23 w' w.heap.size (fun _ => True) v0_ mk ∧ Below w.heap.size w w' :=
 callsIn_wide.1 (smallG_in xs p xs.length hp hp2 hx hn0 hn mk kk hmk A c w hC)
end Go.Proofs.YtjbcnppbcomaiaaGreatDoor.Q
namespace Go.Proofs.YtjbcnppbcomaiaaGreatDoor.Q
open Go.RowKit Go.Shelf Go.Proofs.YtjbcnppbcomaiaaGreatDoorW.PrintWords Go.Proofs.YtjbcnppbcomaiaaGreatDoorW.PrintLast Go.Proofs.YtjbcnppbcomaiaaGreatDoorW.PrintMore
set_option linter.unusedVariables false
set_option linter.unusedSimpArgs false
def div_DivMod.f (k : Nat) (l0 l1 : List Int) : Option (List Int × List Int × Int) :=
 match l1 with
 | [p] => if 0 < p ∧ p < 4294967296 ∧ (∀ x ∈ l0, 0 ≤ x ∧ x < 4294967296) ∧ l0.length ≤ 70368744177664 then
     (nat_Cmp.f k l0 [p]).bind fun c => if c < 0 then some ([], l0, 0) else if 0 < l0.length then
       (nat_Make.f k (smOf l0 p l0.length (revs l0.length)).1).bind fun q => (nat_Make.f k [(smOf l0 p l0.length (revs l0.length)).2]).bind fun r => some (q, r, 0) else none
   else none
 | _ => none
theorem C_new (w : World) (v : Int) : Kd.C (Kd.int .u32) (w.alloc (.cells #[.int .u32 v] 23)) (some ⟨w.heap.size, 0, none⟩) 1 [v] := by
 have hR : (Kd.int .u32).R 23 (w.alloc (.cells #[.int .u32 v] 23)) w.heap.size (fun _ => True) (.slice (some ⟨w.heap.size, 0, none⟩) 1 1) [v] := Kd.R_of_own ⟨rfl, .inr ⟨w.heap.size, 1, #[.int .u32 v], rfl, Nat.le_refl _, World.alloc_heap_new w _, Nat.le_refl _, by decide, rfl, rfl⟩⟩ (fun _ _ => trivial)
 obtain ⟨A', c', hv, hle, hC⟩ := Kd.R_reads hR
 injection hv with e1 e2 e3
 subst e1
 exact hC
def DQ (P0_ : Nat → Prop) (q r : List Int) (w : World) (e : Ending) (w' : World) : Prop :=
 ∃ v0_ v1_ : Value, e = .returned (.tuple #[v0_, v1_, .int .i64 0]) ∧ Kd.R (Kd.int .u32) 23 w' w.heap.size (fun _ => True) v0_ q ∧ Kd.V (Kd.int .u32) 23 w' w.heap.size (fun k_ => (P0_ k_ ∨ w.heap.size ≤ k_) ∧ some k_ ≠ v0_.ownBlock) v1_ r ∧ Below w.heap.size w w'
theorem div_ltP (P0_ : Nat → Prop) (kk : Nat) (l0 : List Int) (p c : Int) (hc : nat_Cmp.f kk l0 [p] = some c) (hc0 : c < 0) (A0 A1 : Option Addr) (c0 c1 : Nat) (w : World) (h0 : Kd.V (Kd.int .u32) 23 w w.heap.size P0_ (.slice A0 l0.length c0) l0) (h1 : Kd.C (Kd.int .u32) w A1 1 [p]) (hc1 : 1 ≤ c1) :
   Calls Tryz.prog 54 #[.slice A0 l0.length c0, .slice A1 1 c1] w (DQ P0_ [] l0 w) := by
 have hcmp : Calls Tryz.prog 73 #[.slice A0 l0.length c0, .slice A1 1 c1] w fun e w' => e = .returned (.int .i64 c) ∧ Below w.heap.size w w' := nat_Cmp.calls kk A0 c0 l0 A1 c1 [p] c w (Kd.V_reads' h0).2.2 (Kd.V_reads' h0).2.1 h1 hc1 hc
 have H0 := am h0
 have hd : decide (c < 0) = true := decide_eq_true hc0
 clear h0 h1 hc hc0
 go_enter Tryz.func54, Tryz.ntmps54
 go_wp2_with (go_at_call 73; (with_reducible refine hcmp.mono ?_); rintro e w' ⟨rfl, hb⟩; have HB := am hb; clear hb hcmp)
 refine bodyPost_ret (results_tmp3 rfl _ _ _) rfl ?_
 exact ⟨_, _, rfl, Kd.R_nil _ _ _ _ _, Kd.V_mono (Kd.V_below H0.out HB.out) (fun k hk => ⟨.inl hk, by simp [Value.ownBlock]⟩), HB.out⟩
theorem div_geP (P0_ : Nat → Prop) (kk : Nat) (l0 : List Int) (p c : Int) (hp : 0 < p) (hp2 : p < 4294967296) (hx : ∀ x ∈ l0, 0 ≤ x ∧ x < 4294967296) (hn0 : 0 < l0.length) (hn : l0.length ≤ 70368744177664) (hc : nat_Cmp.f kk l0 [p] = some c) (hc0 : ¬ c < 0) (mk : List Int) (hmk : nat_Make.f kk (smOf l0 p l0.length (revs l0.length)).1 = some mk) (r : Int) (hr : (smOf l0 p l0.length (revs l0.length)).2 = r) (rr : List Int) (hrr : nat_Make.f kk [r] = some rr)
   (A0 A1 : Option Addr) (c0 c1 : Nat) (w : World) (h0 : Kd.C (Kd.int .u32) w A0 l0.length l0) (hcc : l0.length ≤ c0) (h1 : Kd.C (Kd.int .u32) w A1 1 [p]) (hc1 : 1 ≤ c1) :
   Calls Tryz.prog 54 #[.slice A0 l0.length c0, .slice A1 1 c1] w (DQ P0_ mk rr w) := by
 have hcmp : Calls Tryz.prog 73 #[.slice A0 l0.length c0, .slice A1 1 c1] w fun e w' => e = .returned (.int .i64 c) ∧ Below w.heap.size w w' := nat_Cmp.calls kk A0 c0 l0 A1 c1 [p] c w h0 hcc h1 hc1 hc
 obtain ⟨a1, e1, hx1⟩ := Kd.at_int h1 0 (by decide) (by decide)
 cases e1
 have hx7 : w.cell? a1 = some (.int .u32 p) := by have h_ := hx1; rw [show rd [p] 0 = p from rfl] at h_; simpa [Addr.add] using h_
 have hsm : ∀ W, Kd.C (Kd.int .u32) W A0 l0.length l0 → Calls Tryz.prog 74 #[.slice A0 l0.length c0, .int .u32 p] W fun e w' => ∃ v0_ : Value, e = .returned (.tuple #[v0_, .int .u32 r, .int .i64 0]) ∧ Kd.R (Kd.int .u32) 23 w' W.heap.size (fun _ => True) v0_ mk ∧ Below W.heap.size W w' := fun W h => by
   subst hr
   exact div_Small.calls l0 p hp hp2 hx hn0 hn mk kk hmk A0 c0 W h
 have HSM := am hsm
 have H0 := am h0
 have HX := am hx7
 have HRR := am hrr
 have hd : decide (c < 0) = false := decide_eq_false hc0
 clear h0 h1 hx1 hx7 hc hc0 hsm hrr hr hmk hx hp hp2 hn hn0
 go_enter Tryz.func54, Tryz.ntmps54
 go_wp2_with (first | (go_at_call 73; (with_reducible refine hcmp.mono ?_); rintro e w2 ⟨rfl, hb⟩; have hc7 := (hb.cell (World.block_lt_of_cell? _ _ HX.out)).trans HX.out; have HB := am hb; clear hb hcmp) | (go_at_call 74; (with_reducible refine (HSM.out _ (Kd.C_below H0.out HB.out)).mono ?_); rintro e w3 ⟨v3, rfl, hR3, hb3⟩; have HR3 := am hR3; have HB3 := am hb3; clear hR3 hb3) | (go_at_call 72; (refine (show Calls Tryz.prog 72 #[.slice (some ⟨_, 0, none⟩) 1 1] _ _ from (nat_Make.calls kk _ 1 [r] rr _ (C_new _ _) (Nat.le_refl _) HRR.out)).mono ?_); rintro e w4 ⟨v4, rfl, hR4, hb4⟩; have HR4 := am hR4; have HB4 := am hb4; clear hR4 hb4))
 refine bodyPost_ret (results_tmp3 rfl _ _ _) rfl ?_
 have hle2 := HB.out.size
 have hb34 := below_step (below_alloc (Below.refl w3.heap.size w3) _) HB4.out
 have hle4 := (below_alloc (Below.refl w3.heap.size w3) (Obj.cells #[Value.int IntKind.u32 r] 23)).size
 have hle3 := HB3.out.size
 refine ⟨v3, v4, rfl, Kd.R_lower (Kd.R_below HR3.out hb34) hle2, ?_, below_step (below_alloc (below_step HB.out HB3.out) _) HB4.out⟩
 refine Kd.V_mono (Kd.R_V (Kd.R_bound HR4.out)) (fun k hk => ⟨.inr ?_, fun e => ?_⟩)
 · exact Nat.le_trans hle2 (Nat.le_trans hle3 (Nat.le_trans hle4 hk.2.1))
 · exact absurd (Kd.R_lt HR3.out k e.symm) (Nat.not_lt.2 (Nat.le_trans hle4 hk.2.1))
theorem div_DivMod.calls (k : Nat) (P0_ : Nat → Prop) (A0 : Option Addr) (c0 : Nat) (l0 : List Int) (A1 : Option Addr) (c1 : Nat) (l1 : List Int) (r1 : List Int) (r2 : List Int) (r3 : Int) (w : World) (hs0 : Kd.V (Kd.int .u32) 23 w w.heap.size (fun k_ => P0_ k_) (.slice A0 l0.length c0) l0) (hr1 : Kd.C (Kd.int .u32) w A1 l1.length l1) (hc1 : l1.length ≤ c1) (h : div_DivMod.f k l0 l1 = some (r1, r2, r3)) :
   Calls Tryz.prog 54 #[.slice A0 l0.length c0, .slice A1 l1.length c1] w fun e w' => ∃ v0_ v1_ : Value, e = .returned (.tuple #[v0_, v1_, .int .i64 r3]) ∧ Kd.R (Kd.int .u32) 23 w' w.heap.size (fun _ => True) v0_ r1 ∧ Kd.V (Kd.int .u32) 23 w' w.heap.size (fun k_ => (P0_ k_ ∨ w.heap.size ≤ k_) ∧ some k_ ≠ v0_.ownBlock) v1_ r2 ∧ Below w.heap.size w w' := by
 match l1, hr1, hc1, h with
 | [], _, _, h => cases h
 | _ :: _ :: _, _, _, h => cases h
 | [p], hr1, hc1, h =>
   unfold div_DivMod.f at h
   simp only at h
   split at h
   · rename_i hh
     obtain ⟨hp, hp2, hx, hn⟩ := hh
     obtain ⟨c, hc, h⟩ := Option.bind_eq_some_iff.1 h
     split at h
     · rename_i hc0
       cases h
       exact div_ltP P0_ k l0 p c hc hc0 A0 A1 c0 c1 w hs0 hr1 hc1
     · rename_i hc0
       split at h
       · rename_i hn0
         obtain ⟨mk, hmk, h⟩ := Option.bind_eq_some_iff.1 h
         obtain ⟨rr, hrr, h⟩ := Option.bind_eq_some_iff.1 h
         cases h
         exact div_geP P0_ k l0 p c hp hp2 hx hn0 hn hc hc0 _ hmk _ rfl _ hrr A0 A1 c0 c1 w (Kd.V_reads' hs0).2.2 (Kd.V_reads' hs0).2.1 hr1 hc1
       · cases h
   · cases h
end Go.Proofs.YtjbcnppbcomaiaaGreatDoor.Q
namespace Go.Proofs.YtjbcnppbcomaiaaGreatDoor.Q
open Go.RowKit Go.Proofs.YtjbcnppbcomaiaaGreatDoorW.PrintWords Go.Proofs.YtjbcnppbcomaiaaGreatDoorW.PrintLast Go.Proofs.YtjbcnppbcomaiaaGreatDoorW.PrintMore
attribute [local go_sem] max2_int min2_int max_two min_two max_three min_three max_four min_four   -- for this text's walks alone
set_option linter.unusedVariables false
set_option linter.unusedSimpArgs false
def integer_DivMod.j0 : Nat → List Int → List Int → Bool → Bool → List Int → Bool → List Int → Option (Bool × List Int × Bool × List Int × Int)
 | 0, _, _, _, _, _, _, _ => none
 | k + 1, x7, x8, x30, x188000, x188001, x189000, x189001 => if x30 = true then ((integer_one.f).bind fun t198 => ((nat_Add.f k x7 t198).bind fun t201 => ((nat_Sub.f k x189001 x8).bind fun bt204 => ((integer_Make.f k (x188000 != x189000) t201).bind fun bt208 => ((integer_Make.f k false bt204.1).bind fun bt212 => (some (bt208.1, bt208.2, bt212.1, bt212.2, 0))))))) else ((integer_Make.f k (x188000 != x189000) x7).bind fun bt216 => ((integer_Make.f k false x8).bind fun bt220 => (some (bt216.1, bt216.2, bt220.1, bt220.2, 0))))
def integer_DivMod.f (k : Nat) (a0_0 : Bool) (l0_1 : List Int) (a1_0 : Bool) (l1_1 : List Int) : Option (Bool × List Int × Bool × List Int × Int) := (div_DivMod.f k l0_1 l1_1).bind fun bt191 => (if bt191.2.2 = 0 then (if a0_0 = true then (integer_DivMod.j0 k bt191.1 bt191.2.1 (decide ((bt191.2.1.length : Int) > 0)) a0_0 l0_1 a1_0 l1_1) else (integer_DivMod.j0 k bt191.1 bt191.2.1 false a0_0 l0_1 a1_0 l1_1)) else (some (false, ([] : List Int), false, ([] : List Int), bt191.2.2)))
theorem integer_DivMod.calls (k : Nat) (a0_0 : Bool) (A0_1 : Option Addr) (c0_1 : Nat) (l0_1 : List Int) (a1_0 : Bool) (A1_1 : Option Addr) (c1_1 : Nat) (l1_1 : List Int) (r1 : Bool) (r2 : List Int) (r3 : Bool) (r4 : List Int) (r5 : Int) (w : World) (hr0_1 : Kd.C (Kd.int .u32) w A0_1 l0_1.length l0_1) (hc0_1 : l0_1.length ≤ c0_1) (hr1_1 : Kd.C (Kd.int .u32) w A1_1 l1_1.length l1_1) (hc1_1 : l1_1.length ≤ c1_1) (h : integer_DivMod.f k a0_0 l0_1 a1_0 l1_1 = some (r1, r2, r3, r4, r5)) :
   Calls Tryz.prog 27 #[.agg #[.bool a0_0, .slice A0_1 l0_1.length c0_1], .agg #[.bool a1_0, .slice A1_1 l1_1.length c1_1]] w fun e w' => ∃ v1_ v3_ : Value, e = .returned (.tuple #[.agg #[.bool r1, v1_], .agg #[.bool r3, v3_], .int .i64 r5]) ∧ Kd.R (Kd.int .u32) 23 w' w.heap.size (fun k_ => some k_ ≠ (v3_ : Value).ownBlock) v1_ r2 ∧ Kd.R (Kd.int .u32) 23 w' w.heap.size (fun k_ => some k_ ≠ (v1_ : Value).ownBlock) v3_ r4 ∧ Below w.heap.size w w' := by
 have hu56 := Tryz.underlying49
 have HR0_1 := am hr0_1
 have HC0_1 := am hc0_1
 clear hr0_1 hc0_1
 have HR1_1 := am hr1_1
 have HC1_1 := am hc1_1
 clear hr1_1 hc1_1
 have HB := am (Below.refl w.heap.size w)
 have H := h; unfold integer_DivMod.f at H
 clear h
 obtain ⟨⟨t191, t194, t197⟩, A30, H⟩ := Option.bind_eq_some_iff.mp H
 try dsimp only at H
 have A3 := am A30
 clear A30
 by_cases c4 : t197 = 0
 case neg =>
   rw [if_neg c4] at H
   have c4b0 : (t197 == 0) = false := beq_eq_false_iff_ne.mpr c4
   have c4b1 : (t197 != 0) = true := bne_iff_ne.mpr c4
   simp only [Option.some.injEq, Prod.mk.injEq] at H
   obtain ⟨rfl, rfl, rfl, rfl, rfl⟩ := H
   go_enter Tryz.func27, Tryz.ntmps27
   go_wp2_with (first | ((with_reducible refine gate_dst (N := 2) rfl ?_); (try (refine gate_guard (by rfl) ?_; dsimp only)); refine boxE (N := 2) (cs := #[.bool a0_0, .slice A0_1 l0_1.length c0_1]) (t := 49) ?_; intro gb187 hg w75 hbox hb; have n0_ := am (below_step bB hb); have n1_ := am (hbox); have n2_ := am ((by rw [hg]; exact (below_size bB) : w.heap.size ≤ gb187)); have n3_ := am ((by rw [hg]; exact (below_size bB) : w.heap.size ≤ gb187)); clear HB; have HB := n0_; have BK187 := n1_; have GW187 := n2_; have GE187 := n3_; clear n0_ n1_ n2_ n3_; clear hb hbox hg) | ((with_reducible refine gate_dst (N := 3) rfl ?_); (try (refine gate_guard (by rfl) ?_; dsimp only)); refine boxE (N := 3) (cs := #[.bool a1_0, .slice A1_1 l1_1.length c1_1]) (t := 49) ?_; intro gb188 hg w76 hbox hb; have n0_ := am (blk_below (g := gb187) (o := .cells #[.bool a0_0, .slice A0_1 l0_1.length c0_1] 49 (0, 0)) (bk BK187.out) hb); have n1_ := am (below_step bB hb); have n2_ := am (hbox); have n3_ := am ((by rw [hg]; exact (below_size bB) : w.heap.size ≤ gb188)); have n4_ := am ((by rw [hg]; exact (below_size bB) : w.heap.size ≤ gb188)); have n5_ := am ((by rw [hg]; exact Nat.ne_of_lt (blk_lt (g := gb187) (o := .cells #[.bool a0_0, .slice A0_1 l0_1.length c0_1] 49 (0, 0)) (bk BK187.out)) : gb187 ≠ gb188)); have n6_ := am ((by rw [hg]; exact Nat.ne_of_gt (blk_lt (g := gb187) (o := .cells #[.bool a0_0, .slice A0_1 l0_1.length c0_1] 49 (0, 0)) (bk BK187.out)) : gb188 ≠ gb187)); clear BK187; clear HB; have BK187 := n0_; have HB := n1_; have BK188 := n2_; have GW188 := n3_; have GE188 := n4_; have NB187_188 := n5_; have NB188_187 := n6_; clear n0_ n1_ n2_ n3_ n4_ n5_ n6_; clear hb hbox hg) | ((with_reducible refine gate_dst (N := 4) rfl ?_); (try (refine gate_guard (by rfl) ?_; dsimp only)); refine boxE (N := 4) (cs := #[.bool false, .slice none 0 0]) (t := 49) ?_; intro gb189 hg w77 hbox hb; have n0_ := am (blk_below (g := gb187) (o := .cells #[.bool a0_0, .slice A0_1 l0_1.length c0_1] 49 (0, 0)) (bk BK187.out) hb); have n1_ := am (blk_below (g := gb188) (o := .cells #[.bool a1_0, .slice A1_1 l1_1.length c1_1] 49 (0, 0)) (bk BK188.out) hb); have n2_ := am (below_step bB hb); have n3_ := am (hbox); have n4_ := am ((by rw [hg]; exact (below_size bB) : w.heap.size ≤ gb189)); have n5_ := am ((by rw [hg]; exact (below_size bB) : w.heap.size ≤ gb189)); have n6_ := am ((by rw [hg]; exact Nat.ne_of_lt (blk_lt (g := gb187) (o := .cells #[.bool a0_0, .slice A0_1 l0_1.length c0_1] 49 (0, 0)) (bk BK187.out)) : gb187 ≠ gb189)); have n7_ := am ((by rw [hg]; exact Nat.ne_of_gt (blk_lt (g := gb187) (o := .cells #[.bool a0_0, .slice A0_1 l0_1.length c0_1] 49 (0, 0)) (bk BK187.out)) : gb189 ≠ gb187)); have n8_ := am ((by rw [hg]; exact Nat.ne_of_lt (blk_lt (g := gb188) (o := .cells #[.bool a1_0, .slice A1_1 l1_1.length c1_1] 49 (0, 0)) (bk BK188.out)) : gb188 ≠ gb189)); have n9_ := am ((by rw [hg]; exact Nat.ne_of_gt (blk_lt (g := gb188) (o := .cells #[.bool a1_0, .slice A1_1 l1_1.length c1_1] 49 (0, 0)) (bk BK188.out)) : gb189 ≠ gb188)); clear BK187; clear BK188; clear HB; have BK187 := n0_; have BK188 := n1_; have HB := n2_; have BK189 := n3_; have GW189 := n4_; have GE189 := n5_; have NB187_189 := n6_; have NB189_187 := n7_; have NB188_189 := n8_; have NB189_188 := n9_; clear n0_ n1_ n2_ n3_ n4_ n5_ n6_ n7_ n8_ n9_; clear hb hbox hg) | ((with_reducible refine gate_dst (N := 5) rfl ?_); (try (refine gate_guard (by rfl) ?_; dsimp only)); refine boxE (N := 5) (cs := #[.bool false, .slice none 0 0]) (t := 49) ?_; intro gb190 hg w78 hbox hb; have n0_ := am (blk_below (g := gb187) (o := .cells #[.bool a0_0, .slice A0_1 l0_1.length c0_1] 49 (0, 0)) (bk BK187.out) hb); have n1_ := am (blk_below (g := gb188) (o := .cells #[.bool a1_0, .slice A1_1 l1_1.length c1_1] 49 (0, 0)) (bk BK188.out) hb); have n2_ := am (blk_below (g := gb189) (o := .cells #[.bool false, .slice none 0 0] 49 (0, 0)) (bk BK189.out) hb); have n3_ := am (below_step bB hb); have n4_ := am (hbox); have n5_ := am ((by rw [hg]; exact (below_size bB) : w.heap.size ≤ gb190)); have n6_ := am ((by rw [hg]; exact (below_size bB) : w.heap.size ≤ gb190)); have n7_ := am ((by rw [hg]; exact Nat.ne_of_lt (blk_lt (g := gb187) (o := .cells #[.bool a0_0, .slice A0_1 l0_1.length c0_1] 49 (0, 0)) (bk BK187.out)) : gb187 ≠ gb190)); have n8_ := am ((by rw [hg]; exact Nat.ne_of_gt (blk_lt (g := gb187) (o := .cells #[.bool a0_0, .slice A0_1 l0_1.length c0_1] 49 (0, 0)) (bk BK187.out)) : gb190 ≠ gb187)); have n9_ := am ((by rw [hg]; exact Nat.ne_of_lt (blk_lt (g := gb188) (o := .cells #[.bool a1_0, .slice A1_1 l1_1.length c1_1] 49 (0, 0)) (bk BK188.out)) : gb188 ≠ gb190)); have n10_ := am ((by rw [hg]; exact Nat.ne_of_gt (blk_lt (g := gb188) (o := .cells #[.bool a1_0, .slice A1_1 l1_1.length c1_1] 49 (0, 0)) (bk BK188.out)) : gb190 ≠ gb188)); have n11_ := am ((by rw [hg]; exact Nat.ne_of_lt (blk_lt (g := gb189) (o := .cells #[.bool false, .slice none 0 0] 49 (0, 0)) (bk BK189.out)) : gb189 ≠ gb190)); have n12_ := am ((by rw [hg]; exact Nat.ne_of_gt (blk_lt (g := gb189) (o := .cells #[.bool false, .slice none 0 0] 49 (0, 0)) (bk BK189.out)) : gb190 ≠ gb189)); clear BK187; clear BK188; clear BK189; clear HB; have BK187 := n0_; have BK188 := n1_; have BK189 := n2_; have HB := n3_; have BK190 := n4_; have GW190 := n5_; have GE190 := n6_; have NB187_190 := n7_; have NB190_187 := n8_; have NB188_190 := n9_; have NB190_188 := n10_; have NB189_190 := n11_; have NB190_189 := n12_; clear n0_ n1_ n2_ n3_ n4_ n5_ n6_ n7_ n8_ n9_ n10_ n11_ n12_; clear hb hbox hg; have hnb79 := NB187_188.out; have hnc79 := NB188_187.out; have hnb80 := NB187_189.out; have hnc80 := NB189_187.out; have hnb81 := NB187_190.out; have hnc81 := NB190_187.out; have hcz82_0 : w78.cell? ⟨gb187, 0, none⟩ = some (.bool a0_0) := (blk_cell BK187.out 0).trans rfl; have hcz82_1 : w78.cell? ⟨gb187, 1, none⟩ = some (.slice A0_1 l0_1.length c0_1) := (blk_cell BK187.out 1).trans rfl; have hfz82_0 := blk_frozen BK187.out 0; have hfz82_1 := blk_frozen BK187.out 1; have hnb83 := NB188_189.out; have hnc83 := NB189_188.out; have hnb84 := NB188_190.out; have hnc84 := NB190_188.out; have hcz85_0 : w78.cell? ⟨gb188, 0, none⟩ = some (.bool a1_0) := (blk_cell BK188.out 0).trans rfl; have hcz85_1 : w78.cell? ⟨gb188, 1, none⟩ = some (.slice A1_1 l1_1.length c1_1) := (blk_cell BK188.out 1).trans rfl; have hfz85_0 := blk_frozen BK188.out 0; have hfz85_1 := blk_frozen BK188.out 1) | ((with_reducible refine gate_callee (f := 54) rfl ?_); refine goesA (some 15) Tryz.func54 #[.slice A0_1 l0_1.length c0_1, .slice A1_1 l1_1.length c1_1] ?_; (with_reducible refine (div_DivMod.calls k (fun k_ => k_ < w.heap.size) _ _ l0_1 _ _ l1_1 t191 t194 t197 _ ?side1 ?side2 ?side3 A3.out).mono ?_); (case side1 => exact Kd.V_mk HC0_1.out (Kd.F_below (Kd.C_F (Kd.heap_int .u32) HR0_1.out) bB)); (case side2 => exact kC2 ((Kd.C_below HR1_1.out HB.out))); (case side3 => exact HC1_1.out); rintro e w86 ⟨v192, v195, rfl, ho0, ho1, hb⟩; refine ⟨_, rfl, ?_⟩; have n0_ := am (Kd.R_lower (Kd.R_mono (ok' := fun k_ => True) ho0 (fun _ hk_ => trivial)) (below_size bB)); have n1_ := am (Kd.V_lower (Kd.V_mono (ok' := fun k_ => some k_ ≠ (v192 : Value).ownBlock ∧ k_ ≠ gb187 ∧ k_ ≠ gb188 ∧ k_ ≠ gb189 ∧ k_ ≠ gb190) ho1 (fun k_ hk_ => ⟨hk_.2, Or.elim hk_.1 (fun hs_ => fun e_ => Nat.not_le.2 hs_ (by rw [e_]; exact GW187.out)) (fun hn_ => (Kd.freshB (g := gb187) (o := .cells #[.bool a0_0, .slice A0_1 l0_1.length c0_1] 49 (0, 0)) (bk BK187.out) k_ hn_)), Or.elim hk_.1 (fun hs_ => fun e_ => Nat.not_le.2 hs_ (by rw [e_]; exact GW188.out)) (fun hn_ => (Kd.freshB (g := gb188) (o := .cells #[.bool a1_0, .slice A1_1 l1_1.length c1_1] 49 (0, 0)) (bk BK188.out) k_ hn_)), Or.elim hk_.1 (fun hs_ => fun e_ => Nat.not_le.2 hs_ (by rw [e_]; exact GW189.out)) (fun hn_ => (Kd.freshB (g := gb189) (o := .cells #[.bool false, .slice none 0 0] 49 (0, 0)) (bk BK189.out) k_ hn_)), Or.elim hk_.1 (fun hs_ => fun e_ => Nat.not_le.2 hs_ (by rw [e_]; exact GW190.out)) (fun hn_ => (Kd.freshB (g := gb190) (o := .cells #[.bool false, .slice none 0 0] 49 (0, 0)) (bk BK190.out) k_ hn_))⟩)) (below_size bB)); have n2_ := am (blk_below (g := gb187) (o := .cells #[.bool a0_0, .slice A0_1 l0_1.length c0_1] 49 (0, 0)) (bk BK187.out) hb); have n3_ := am (blk_below (g := gb188) (o := .cells #[.bool a1_0, .slice A1_1 l1_1.length c1_1] 49 (0, 0)) (bk BK188.out) hb); have n4_ := am (blk_below (g := gb189) (o := .cells #[.bool false, .slice none 0 0] 49 (0, 0)) (bk BK189.out) hb); have n5_ := am (blk_below (g := gb190) (o := .cells #[.bool false, .slice none 0 0] 49 (0, 0)) (bk BK190.out) hb); have n6_ := am (below_step bB hb); clear BK187; clear BK188; clear BK189; clear BK190; clear HB; have HO193 := n0_; have HO196 := n1_; have BK187 := n2_; have BK188 := n3_; have BK189 := n4_; have BK190 := n5_; have HB := n6_; clear n0_ n1_ n2_ n3_ n4_ n5_ n6_; (try clear hb); (try clear hb2); (try clear hk); (try clear hi); (try clear ho0); (try clear ho1); have hnb87 := NB189_190.out; have hnc87 := NB190_189.out; have hcz88_0 : w86.cell? ⟨gb189, 0, none⟩ = some (.bool false) := (blk_cell BK189.out 0).trans rfl; have hcz88_1 : w86.cell? ⟨gb189, 1, none⟩ = some (.slice none 0 0) := (blk_cell BK189.out 1).trans rfl; have hfz88_0 := blk_frozen BK189.out 0; have hfz88_1 := blk_frozen BK189.out 1; have hcz89_0 : w86.cell? ⟨gb190, 0, none⟩ = some (.bool false) := (blk_cell BK190.out 0).trans rfl; have hcz89_1 : w86.cell? ⟨gb190, 1, none⟩ = some (.slice none 0 0) := (blk_cell BK190.out 1).trans rfl; have hfz89_0 := blk_frozen BK190.out 0; have hfz89_1 := blk_frozen BK190.out 1))
   refine bodyPost_ret (results_list (rs := [.cell 4 49, .cell 5 49, .tmp 6]) rfl (by simp) (.cell gb189 49 #[.bool false, .slice none 0 0] (0, 0) _ rfl (by (with_reducible repeat (first | refine blk_drewN ?_ _ | refine blk_drew ?_ | refine blk_alloc ?_ _)); refine blk_far ?_ NB189_190.out _; (with_reducible repeat (first | refine blk_drewN ?_ _ | refine blk_drew ?_ | refine blk_alloc ?_ _)); refine blk_far ?_ NB189_190.out _; (with_reducible repeat (first | refine blk_drewN ?_ _ | refine blk_drew ?_ | refine blk_alloc ?_ _)); refine blk_put (cs := #[.bool false, .slice none 0 0]) ?_ 1 _ rfl; (with_reducible repeat (first | refine blk_drewN ?_ _ | refine blk_drew ?_ | refine blk_alloc ?_ _)); refine blk_put (cs := #[.bool false, .slice none 0 0]) ?_ 0 _ rfl; (with_reducible repeat (first | refine blk_drewN ?_ _ | refine blk_drew ?_ | refine blk_alloc ?_ _)); exact BK189.out) Tryz.underlying49 rfl (by kernel_rfl) (.cell gb190 49 #[.bool false, .slice none 0 0] (0, 0) _ rfl (by (with_reducible repeat (first | refine blk_drewN ?_ _ | refine blk_drew ?_ | refine blk_alloc ?_ _)); refine blk_put (cs := #[.bool false, .slice none 0 0]) ?_ 1 _ rfl; (with_reducible repeat (first | refine blk_drewN ?_ _ | refine blk_drew ?_ | refine blk_alloc ?_ _)); refine blk_put (cs := #[.bool false, .slice none 0 0]) ?_ 0 _ rfl; (with_reducible repeat (first | refine blk_drewN ?_ _ | refine blk_drew ?_ | refine blk_alloc ?_ _)); refine blk_far ?_ NB190_189.out _; (with_reducible repeat (first | refine blk_drewN ?_ _ | refine blk_drew ?_ | refine blk_alloc ?_ _)); refine blk_far ?_ NB190_189.out _; (with_reducible repeat (first | refine blk_drewN ?_ _ | refine blk_drew ?_ | refine blk_alloc ?_ _)); exact BK190.out) Tryz.underlying49 rfl (by kernel_rfl) (.tmp .nil)))) rfl ?_
   exact ⟨(.slice none 0 0), (.slice none 0 0), eqR, by first | exact Kd.R_nil _ _ _ _ _ | exact Kd.N_nil _ _ _ _ _ | exact Kd.V_nil _ _ _ _ _ | exact Kd.Q_nil _ _ _ _ _ | exact Kd.S_nil _ _ _ _ _, by first | exact Kd.R_nil _ _ _ _ _ | exact Kd.N_nil _ _ _ _ _ | exact Kd.V_nil _ _ _ _ _ | exact Kd.Q_nil _ _ _ _ _ | exact Kd.S_nil _ _ _ _ _, bB⟩
 rw [if_pos c4] at H
 have c4b0 : (t197 == 0) = true := beq_iff_eq.mpr c4
 have c4b1 : (t197 != 0) = false := bne_eq_false_iff_eq.mpr c4
 clear c4
 have HC5 := am H
 clear H
 go_enter Tryz.func27, Tryz.ntmps27
 go_upto_region 4 with (first | ((with_reducible refine gate_dst (N := 2) rfl ?_); (try (refine gate_guard (by rfl) ?_; dsimp only)); refine boxE (N := 2) (cs := #[.bool a0_0, .slice A0_1 l0_1.length c0_1]) (t := 49) ?_; intro gb187 hg w6 hbox hb; have n0_ := am (below_step bB hb); have n1_ := am (hbox); have n2_ := am ((by rw [hg]; exact (below_size bB) : w.heap.size ≤ gb187)); have n3_ := am ((by rw [hg]; exact (below_size bB) : w.heap.size ≤ gb187)); clear HB; have HB := n0_; have BK187 := n1_; have GW187 := n2_; have GE187 := n3_; clear n0_ n1_ n2_ n3_; clear hb hbox hg) | ((with_reducible refine gate_dst (N := 3) rfl ?_); (try (refine gate_guard (by rfl) ?_; dsimp only)); refine boxE (N := 3) (cs := #[.bool a1_0, .slice A1_1 l1_1.length c1_1]) (t := 49) ?_; intro gb188 hg w7 hbox hb; have n0_ := am (blk_below (g := gb187) (o := .cells #[.bool a0_0, .slice A0_1 l0_1.length c0_1] 49 (0, 0)) (bk BK187.out) hb); have n1_ := am (below_step bB hb); have n2_ := am (hbox); have n3_ := am ((by rw [hg]; exact (below_size bB) : w.heap.size ≤ gb188)); have n4_ := am ((by rw [hg]; exact (below_size bB) : w.heap.size ≤ gb188)); have n5_ := am ((by rw [hg]; exact Nat.ne_of_lt (blk_lt (g := gb187) (o := .cells #[.bool a0_0, .slice A0_1 l0_1.length c0_1] 49 (0, 0)) (bk BK187.out)) : gb187 ≠ gb188)); have n6_ := am ((by rw [hg]; exact Nat.ne_of_gt (blk_lt (g := gb187) (o := .cells #[.bool a0_0, .slice A0_1 l0_1.length c0_1] 49 (0, 0)) (bk BK187.out)) : gb188 ≠ gb187)); clear BK187; clear HB; have BK187 := n0_; have HB := n1_; have BK188 := n2_; have GW188 := n3_; have GE188 := n4_; have NB187_188 := n5_; have NB188_187 := n6_; clear n0_ n1_ n2_ n3_ n4_ n5_ n6_; clear hb hbox hg) | ((with_reducible refine gate_dst (N := 4) rfl ?_); (try (refine gate_guard (by rfl) ?_; dsimp only)); refine boxE (N := 4) (cs := #[.bool false, .slice none 0 0]) (t := 49) ?_; intro gb189 hg w8 hbox hb; have n0_ := am (blk_below (g := gb187) (o := .cells #[.bool a0_0, .slice A0_1 l0_1.length c0_1] 49 (0, 0)) (bk BK187.out) hb); have n1_ := am (blk_below (g := gb188) (o := .cells #[.bool a1_0, .slice A1_1 l1_1.length c1_1] 49 (0, 0)) (bk BK188.out) hb); have n2_ := am (below_step bB hb); have n3_ := am (hbox); have n4_ := am ((by rw [hg]; exact (below_size bB) : w.heap.size ≤ gb189)); have n5_ := am ((by rw [hg]; exact (below_size bB) : w.heap.size ≤ gb189)); have n6_ := am ((by rw [hg]; exact Nat.ne_of_lt (blk_lt (g := gb187) (o := .cells #[.bool a0_0, .slice A0_1 l0_1.length c0_1] 49 (0, 0)) (bk BK187.out)) : gb187 ≠ gb189)); have n7_ := am ((by rw [hg]; exact Nat.ne_of_gt (blk_lt (g := gb187) (o := .cells #[.bool a0_0, .slice A0_1 l0_1.length c0_1] 49 (0, 0)) (bk BK187.out)) : gb189 ≠ gb187)); have n8_ := am ((by rw [hg]; exact Nat.ne_of_lt (blk_lt (g := gb188) (o := .cells #[.bool a1_0, .slice A1_1 l1_1.length c1_1] 49 (0, 0)) (bk BK188.out)) : gb188 ≠ gb189)); have n9_ := am ((by rw [hg]; exact Nat.ne_of_gt (blk_lt (g := gb188) (o := .cells #[.bool a1_0, .slice A1_1 l1_1.length c1_1] 49 (0, 0)) (bk BK188.out)) : gb189 ≠ gb188)); clear BK187; clear BK188; clear HB; have BK187 := n0_; have BK188 := n1_; have HB := n2_; have BK189 := n3_; have GW189 := n4_; have GE189 := n5_; have NB187_189 := n6_; have NB189_187 := n7_; have NB188_189 := n8_; have NB189_188 := n9_; clear n0_ n1_ n2_ n3_ n4_ n5_ n6_ n7_ n8_ n9_; clear hb hbox hg) | ((with_reducible refine gate_dst (N := 5) rfl ?_); (try (refine gate_guard (by rfl) ?_; dsimp only)); refine boxE (N := 5) (cs := #[.bool false, .slice none 0 0]) (t := 49) ?_; intro gb190 hg w9 hbox hb; have n0_ := am (blk_below (g := gb187) (o := .cells #[.bool a0_0, .slice A0_1 l0_1.length c0_1] 49 (0, 0)) (bk BK187.out) hb); have n1_ := am (blk_below (g := gb188) (o := .cells #[.bool a1_0, .slice A1_1 l1_1.length c1_1] 49 (0, 0)) (bk BK188.out) hb); have n2_ := am (blk_below (g := gb189) (o := .cells #[.bool false, .slice none 0 0] 49 (0, 0)) (bk BK189.out) hb); have n3_ := am (below_step bB hb); have n4_ := am (hbox); have n5_ := am ((by rw [hg]; exact (below_size bB) : w.heap.size ≤ gb190)); have n6_ := am ((by rw [hg]; exact (below_size bB) : w.heap.size ≤ gb190)); have n7_ := am ((by rw [hg]; exact Nat.ne_of_lt (blk_lt (g := gb187) (o := .cells #[.bool a0_0, .slice A0_1 l0_1.length c0_1] 49 (0, 0)) (bk BK187.out)) : gb187 ≠ gb190)); have n8_ := am ((by rw [hg]; exact Nat.ne_of_gt (blk_lt (g := gb187) (o := .cells #[.bool a0_0, .slice A0_1 l0_1.length c0_1] 49 (0, 0)) (bk BK187.out)) : gb190 ≠ gb187)); have n9_ := am ((by rw [hg]; exact Nat.ne_of_lt (blk_lt (g := gb188) (o := .cells #[.bool a1_0, .slice A1_1 l1_1.length c1_1] 49 (0, 0)) (bk BK188.out)) : gb188 ≠ gb190)); have n10_ := am ((by rw [hg]; exact Nat.ne_of_gt (blk_lt (g := gb188) (o := .cells #[.bool a1_0, .slice A1_1 l1_1.length c1_1] 49 (0, 0)) (bk BK188.out)) : gb190 ≠ gb188)); have n11_ := am ((by rw [hg]; exact Nat.ne_of_lt (blk_lt (g := gb189) (o := .cells #[.bool false, .slice none 0 0] 49 (0, 0)) (bk BK189.out)) : gb189 ≠ gb190)); have n12_ := am ((by rw [hg]; exact Nat.ne_of_gt (blk_lt (g := gb189) (o := .cells #[.bool false, .slice none 0 0] 49 (0, 0)) (bk BK189.out)) : gb190 ≠ gb189)); clear BK187; clear BK188; clear BK189; clear HB; have BK187 := n0_; have BK188 := n1_; have BK189 := n2_; have HB := n3_; have BK190 := n4_; have GW190 := n5_; have GE190 := n6_; have NB187_190 := n7_; have NB190_187 := n8_; have NB188_190 := n9_; have NB190_188 := n10_; have NB189_190 := n11_; have NB190_189 := n12_; clear n0_ n1_ n2_ n3_ n4_ n5_ n6_ n7_ n8_ n9_ n10_ n11_ n12_; clear hb hbox hg; have hnb10 := NB187_188.out; have hnc10 := NB188_187.out; have hnb11 := NB187_189.out; have hnc11 := NB189_187.out; have hnb12 := NB187_190.out; have hnc12 := NB190_187.out; have hcz13_0 : w9.cell? ⟨gb187, 0, none⟩ = some (.bool a0_0) := (blk_cell BK187.out 0).trans rfl; have hcz13_1 : w9.cell? ⟨gb187, 1, none⟩ = some (.slice A0_1 l0_1.length c0_1) := (blk_cell BK187.out 1).trans rfl; have hfz13_0 := blk_frozen BK187.out 0; have hfz13_1 := blk_frozen BK187.out 1; have hnb14 := NB188_189.out; have hnc14 := NB189_188.out; have hnb15 := NB188_190.out; have hnc15 := NB190_188.out; have hcz16_0 : w9.cell? ⟨gb188, 0, none⟩ = some (.bool a1_0) := (blk_cell BK188.out 0).trans rfl; have hcz16_1 : w9.cell? ⟨gb188, 1, none⟩ = some (.slice A1_1 l1_1.length c1_1) := (blk_cell BK188.out 1).trans rfl; have hfz16_0 := blk_frozen BK188.out 0; have hfz16_1 := blk_frozen BK188.out 1) | ((with_reducible refine gate_callee (f := 54) rfl ?_); refine goesA (some 15) Tryz.func54 #[.slice A0_1 l0_1.length c0_1, .slice A1_1 l1_1.length c1_1] ?_; (with_reducible refine (div_DivMod.calls k (fun k_ => k_ < w.heap.size) _ _ l0_1 _ _ l1_1 t191 t194 t197 _ ?side1 ?side2 ?side3 A3.out).mono ?_); (case side1 => exact Kd.V_mk HC0_1.out (Kd.F_below (Kd.C_F (Kd.heap_int .u32) HR0_1.out) bB)); (case side2 => exact kC2 ((Kd.C_below HR1_1.out HB.out))); (case side3 => exact HC1_1.out); rintro e w17 ⟨v192, v195, rfl, ho0, ho1, hb⟩; refine ⟨_, rfl, ?_⟩; have n0_ := am (Kd.R_lower (Kd.R_mono (ok' := fun k_ => True) ho0 (fun _ hk_ => trivial)) (below_size bB)); have n1_ := am (Kd.V_lower (Kd.V_mono (ok' := fun k_ => some k_ ≠ (v192 : Value).ownBlock ∧ k_ ≠ gb187 ∧ k_ ≠ gb188 ∧ k_ ≠ gb189 ∧ k_ ≠ gb190) ho1 (fun k_ hk_ => ⟨hk_.2, Or.elim hk_.1 (fun hs_ => fun e_ => Nat.not_le.2 hs_ (by rw [e_]; exact GW187.out)) (fun hn_ => (Kd.freshB (g := gb187) (o := .cells #[.bool a0_0, .slice A0_1 l0_1.length c0_1] 49 (0, 0)) (bk BK187.out) k_ hn_)), Or.elim hk_.1 (fun hs_ => fun e_ => Nat.not_le.2 hs_ (by rw [e_]; exact GW188.out)) (fun hn_ => (Kd.freshB (g := gb188) (o := .cells #[.bool a1_0, .slice A1_1 l1_1.length c1_1] 49 (0, 0)) (bk BK188.out) k_ hn_)), Or.elim hk_.1 (fun hs_ => fun e_ => Nat.not_le.2 hs_ (by rw [e_]; exact GW189.out)) (fun hn_ => (Kd.freshB (g := gb189) (o := .cells #[.bool false, .slice none 0 0] 49 (0, 0)) (bk BK189.out) k_ hn_)), Or.elim hk_.1 (fun hs_ => fun e_ => Nat.not_le.2 hs_ (by rw [e_]; exact GW190.out)) (fun hn_ => (Kd.freshB (g := gb190) (o := .cells #[.bool false, .slice none 0 0] 49 (0, 0)) (bk BK190.out) k_ hn_))⟩)) (below_size bB)); have n2_ := am (blk_below (g := gb187) (o := .cells #[.bool a0_0, .slice A0_1 l0_1.length c0_1] 49 (0, 0)) (bk BK187.out) hb); have n3_ := am (blk_below (g := gb188) (o := .cells #[.bool a1_0, .slice A1_1 l1_1.length c1_1] 49 (0, 0)) (bk BK188.out) hb); have n4_ := am (blk_below (g := gb189) (o := .cells #[.bool false, .slice none 0 0] 49 (0, 0)) (bk BK189.out) hb); have n5_ := am (blk_below (g := gb190) (o := .cells #[.bool false, .slice none 0 0] 49 (0, 0)) (bk BK190.out) hb); have n6_ := am (below_step bB hb); clear BK187; clear BK188; clear BK189; clear BK190; clear HB; have HO193 := n0_; have HO196 := n1_; have BK187 := n2_; have BK188 := n3_; have BK189 := n4_; have BK190 := n5_; have HB := n6_; clear n0_ n1_ n2_ n3_ n4_ n5_ n6_; (try clear hb); (try clear hb2); (try clear hk); (try clear hi); (try clear ho0); (try clear ho1)))
 (try simp only [Act.put, List.setIfInBounds_toArray, List.set_cons_zero, List.set_cons_succ])
 go_cut [30] (fun v30 wc => ∃ (kq : Nat) (x30_4 : Bool), v30 = .bool x30_4 ∧ Aside0 (integer_DivMod.j0 kq t191 t194 x30_4 a0_0 l0_1 a1_0 l1_1 = some (r1, r2, r3, r4, r5)) ∧ Aside0 (kq ≤ k) ∧ Aside0 (Kd.R (Kd.int .u32) 23 wc w.heap.size (fun _ => True) v192 t191) ∧ Aside0 (Kd.V (Kd.int .u32) 23 wc w.heap.size (fun k_ => some k_ ≠ (v192 : Value).ownBlock ∧ k_ ≠ gb187 ∧ k_ ≠ gb188 ∧ k_ ≠ gb189 ∧ k_ ≠ gb190) v195 t194) ∧ Aside0 (wc.heap[gb187]? = some (.cells #[.bool a0_0, (.slice A0_1 l0_1.length c0_1)] 49 (0, 0))) ∧ Aside0 (wc.heap[gb188]? = some (.cells #[.bool a1_0, (.slice A1_1 l1_1.length c1_1)] 49 (0, 0))) ∧ Aside0 (wc.heap[gb189]? = some (.cells #[.bool false, (.slice none 0 0)] 49 (0, 0))) ∧ Aside0 (wc.heap[gb190]? = some (.cells #[.bool false, (.slice none 0 0)] 49 (0, 0))) ∧ Aside0 (Below w.heap.size w wc))
 case first =>
   have H := HC5.out
   clear HC5
   by_cases c18 : a0_0 = true
   case neg =>
     replace c18 := Bool.eq_false_iff.mpr c18
     subst c18
     have H1 : (integer_DivMod.j0 k t191 t194 false false l0_1 a1_0 l1_1) = some (r1, r2, r3, r4, r5) := by rw [if_neg (show ¬ (false = true) by decide)] at H; exact H
     clear H
     have H := H1
     clear H1
     have H' := am H
     clear H
     have hnb24 := NB187_188.out
     have hnc24 := NB188_187.out
     have hnb25 := NB187_189.out
     have hnc25 := NB189_187.out
     have hnb26 := NB187_190.out
     have hnc26 := NB190_187.out
     have hcz27_0 : w17.cell? ⟨gb187, 0, none⟩ = some (.bool false) := (blk_cell BK187.out 0).trans rfl
     have hcz27_1 : w17.cell? ⟨gb187, 1, none⟩ = some (.slice A0_1 l0_1.length c0_1) := (blk_cell BK187.out 1).trans rfl
     have hfz27_0 := blk_frozen BK187.out 0
     have hfz27_1 := blk_frozen BK187.out 1
     go_wp2
     go_meet
     case rel => exact ⟨_, (false), eqS, (by first | exact H' | (subst_vars; exact H')), ⟨by first | omega | exact Nat.le_refl _⟩, ⟨rR (HO193.out)⟩, ⟨rV (HO196.out)⟩, ⟨by (with_reducible repeat (first | refine blk_drewN ?_ _ | refine blk_drew ?_ | refine blk_alloc ?_ _)); exact BK187.out⟩, ⟨by (with_reducible repeat (first | refine blk_drewN ?_ _ | refine blk_drew ?_ | refine blk_alloc ?_ _)); exact BK188.out⟩, ⟨by (with_reducible repeat (first | refine blk_drewN ?_ _ | refine blk_drew ?_ | refine blk_alloc ?_ _)); exact BK189.out⟩, ⟨by (with_reducible repeat (first | refine blk_drewN ?_ _ | refine blk_drew ?_ | refine blk_alloc ?_ _)); exact BK190.out⟩, ⟨bB⟩⟩
   subst c18
   have H1 : (integer_DivMod.j0 k t191 t194 (decide ((t194.length : Int) > 0)) true l0_1 a1_0 l1_1) = some (r1, r2, r3, r4, r5) := by rw [if_pos rfl] at H; exact H
   clear H
   have H := H1
   clear H1
   have H' := am H
   clear H
   have hnb19 := NB187_188.out
   have hnc19 := NB188_187.out
   have hnb20 := NB187_189.out
   have hnc20 := NB189_187.out
   have hnb21 := NB187_190.out
   have hnc21 := NB190_187.out
   have hcz22_0 : w17.cell? ⟨gb187, 0, none⟩ = some (.bool true) := (blk_cell BK187.out 0).trans rfl
   have hcz22_1 : w17.cell? ⟨gb187, 1, none⟩ = some (.slice A0_1 l0_1.length c0_1) := (blk_cell BK187.out 1).trans rfl
   have hfz22_0 := blk_frozen BK187.out 0
   have hfz22_1 := blk_frozen BK187.out 1
   obtain ⟨Ao23, co23, eo23⟩ := Kd.V_slice HO196.out
   subst eo23
   go_wp2
   go_meet
   case rel => exact ⟨_, (decide ((t194.length : Int) > 0)), eqS, (by first | exact H' | (subst_vars; exact H')), ⟨by first | omega | exact Nat.le_refl _⟩, ⟨rR (HO193.out)⟩, ⟨rV (HO196.out)⟩, ⟨by (with_reducible repeat (first | refine blk_drewN ?_ _ | refine blk_drew ?_ | refine blk_alloc ?_ _)); exact BK187.out⟩, ⟨by (with_reducible repeat (first | refine blk_drewN ?_ _ | refine blk_drew ?_ | refine blk_alloc ?_ _)); exact BK188.out⟩, ⟨by (with_reducible repeat (first | refine blk_drewN ?_ _ | refine blk_drew ?_ | refine blk_alloc ?_ _)); exact BK189.out⟩, ⟨by (with_reducible repeat (first | refine blk_drewN ?_ _ | refine blk_drew ?_ | refine blk_alloc ?_ _)); exact BK190.out⟩, ⟨bB⟩⟩
 case rest =>
   clear HC5
   (try clear c1); (try clear c2); (try clear p2); (try clear c4); (try clear c4b0); (try clear c4b1); (try clear c5); (try clear c6); (try clear c10); (try clear c11); (try clear c12); (try clear c14); (try clear c15); (try clear c18); (try clear c19); (try clear c20); (try clear c21); (try clear c24); (try clear c25); (try clear c26); (try clear hcz13_0); (try clear hcz13_1); (try clear hcz16_0); (try clear hcz16_1); (try clear hcz22_0); (try clear hcz22_1); (try clear hcz27_0); (try clear hcz27_1); (try clear hfz13_0); (try clear hfz13_1); (try clear hfz16_0); (try clear hfz16_1); (try clear hfz22_0); (try clear hfz22_1); (try clear hfz27_0); (try clear hfz27_1)
   obtain ⟨kq, x30_4, rfl, HA, HJ4, HO_7, HO_8, BK187, BK188, BK189, BK190, HB⟩ := hcut
   rcases kq with _ | kj4
   · exact absurd HA.out (by simp [integer_DivMod.j0])
   have H := HA.out
   clear HA
   simp only [integer_DivMod.j0] at H
   by_cases c28 : x30_4 = true
   · subst c28
     have H1 : ((integer_one.f).bind fun t198 => ((nat_Add.f kj4 t191 t198).bind fun t201 => ((nat_Sub.f kj4 l1_1 t194).bind fun bt204 => ((integer_Make.f kj4 (a0_0 != a1_0) t201).bind fun bt208 => ((integer_Make.f kj4 false bt204.1).bind fun bt212 => (some (bt208.1, bt208.2, bt212.1, bt212.2, 0))))))) = some (r1, r2, r3, r4, r5) := by rw [if_pos rfl] at H; exact H
     clear H
     have H := H1
     clear H1
     obtain ⟨t198, A290, H⟩ := Option.bind_eq_some_iff.mp H
     try dsimp only at H
     have A29 := am A290
     clear A290
     obtain ⟨t201, A300, H⟩ := Option.bind_eq_some_iff.mp H
     try dsimp only at H
     have A30 := am A300
     clear A300
     obtain ⟨⟨t204, t205⟩, A310, H⟩ := Option.bind_eq_some_iff.mp H
     try dsimp only at H
     have A31 := am A310
     clear A310
     obtain ⟨⟨t208, t209⟩, A320, H⟩ := Option.bind_eq_some_iff.mp H
     try dsimp only at H
     have A32 := am A320
     clear A320
     obtain ⟨⟨t212, t213⟩, A330, H⟩ := Option.bind_eq_some_iff.mp H
     try dsimp only at H
     have A33 := am A330
     clear A330
     simp only [Option.some.injEq, Prod.mk.injEq] at H
     obtain ⟨rfl, rfl, rfl, rfl, rfl⟩ := H
     go_wp2_with (first | ((with_reducible refine gate_callee (f := 56) rfl ?_); refine goesA (some 32) Tryz.func56 #[] ?_; (with_reducible refine (integer_one.calls  t198 _ A29.out).mono ?_); rintro e w34 ⟨v199, rfl, ho0, hb⟩; refine ⟨_, rfl, ?_⟩; have n0_ := am (Kd.R_elder' (rR HO_7.out) (Kd.R_base ho0) hb); have n1_ := am (Kd.V_elder' (rV HO_8.out) (Kd.R_base ho0) hb); have n2_ := am (Kd.R_lower (Kd.R_new' ho0 (Kd.R_lt (rR HO_7.out))) (below_size bB)); have n3_ := am (blk_below (g := gb187) (o := .cells #[.bool a0_0, .slice A0_1 l0_1.length c0_1] 49 (0, 0)) (bk BK187.out) hb); have n4_ := am (blk_below (g := gb188) (o := .cells #[.bool a1_0, .slice A1_1 l1_1.length c1_1] 49 (0, 0)) (bk BK188.out) hb); have n5_ := am (blk_below (g := gb189) (o := .cells #[.bool false, .slice none 0 0] 49 (0, 0)) (bk BK189.out) hb); have n6_ := am (blk_below (g := gb190) (o := .cells #[.bool false, .slice none 0 0] 49 (0, 0)) (bk BK190.out) hb); have n7_ := am (below_step bB hb); clear HO_7; clear HO_8; clear BK187; clear BK188; clear BK189; clear BK190; clear HB; have HO_7 := n0_; have HO_8 := n1_; have HO200 := n2_; have BK187 := n3_; have BK188 := n4_; have BK189 := n5_; have BK190 := n6_; have HB := n7_; clear n0_ n1_ n2_ n3_ n4_ n5_ n6_ n7_; (try clear hb); (try clear hb2); (try clear hk); (try clear hi); (try clear ho0); obtain ⟨Ao35, co35, eo35⟩ := Kd.R_slice HO_7.out; subst eo35; obtain ⟨Ao36, co36, eo36⟩ := Kd.R_slice HO200.out; subst eo36) | ((with_reducible refine gate_callee (f := 55) rfl ?_); refine goesA (some 33) Tryz.func55 #[.slice Ao35 t191.length co35, .slice Ao36 t198.length co36] ?_; (with_reducible refine (nat_Add.calls kj4 _ _ t191 _ _ t198 t201 _ ?side1 ?side2 ?side3 ?side4 A30.out).mono ?_); (case side1 => exact kC2 ((Kd.R_reads' HO_7.out).2.2)); (case side2 => exact (Kd.R_reads' HO_7.out).2.1); (case side3 => exact kC2 ((Kd.R_reads' HO200.out).2.2)); (case side4 => exact (Kd.R_reads' HO200.out).2.1); rintro e w37 ⟨v202, rfl, ho0, hb⟩; refine ⟨_, rfl, ?_⟩; have n0_ := am (Kd.R_elder' (rR HO_7.out) (Kd.R_base ho0) hb); have n1_ := am (Kd.V_elder' (rV HO_8.out) (Kd.R_base ho0) hb); have n2_ := am (Kd.R_elder' (rR HO200.out) (Kd.R_base ho0) hb); have n3_ := am (Kd.R_lower (Kd.R_new' (Kd.R_new' ho0 (Kd.R_lt (rR HO_7.out))) (Kd.R_lt (rR HO200.out))) (below_size bB)); have n4_ := am (blk_below (g := gb187) (o := .cells #[.bool a0_0, .slice A0_1 l0_1.length c0_1] 49 (0, 0)) (bk BK187.out) hb); have n5_ := am (blk_below (g := gb188) (o := .cells #[.bool a1_0, .slice A1_1 l1_1.length c1_1] 49 (0, 0)) (bk BK188.out) hb); have n6_ := am (blk_below (g := gb189) (o := .cells #[.bool false, .slice none 0 0] 49 (0, 0)) (bk BK189.out) hb); have n7_ := am (blk_below (g := gb190) (o := .cells #[.bool false, .slice none 0 0] 49 (0, 0)) (bk BK190.out) hb); have n8_ := am (below_step bB hb); clear HO_7; clear HO_8; clear HO200; clear BK187; clear BK188; clear BK189; clear BK190; clear HB; have HO_7 := n0_; have HO_8 := n1_; have HO200 := n2_; have HO203 := n3_; have BK187 := n4_; have BK188 := n5_; have BK189 := n6_; have BK190 := n7_; have HB := n8_; clear n0_ n1_ n2_ n3_ n4_ n5_ n6_ n7_ n8_; (try clear hb); (try clear hb2); (try clear hk); (try clear hi); (try clear ho0); have hnb38 := NB188_187.out; have hnc38 := NB187_188.out; have hnb39 := NB188_189.out; have hnc39 := NB189_188.out; have hnb40 := NB188_190.out; have hnc40 := NB190_188.out; have hcz41_0 : w37.cell? ⟨gb188, 0, none⟩ = some (.bool a1_0) := (blk_cell BK188.out 0).trans rfl; have hcz41_1 : w37.cell? ⟨gb188, 1, none⟩ = some (.slice A1_1 l1_1.length c1_1) := (blk_cell BK188.out 1).trans rfl; have hfz41_0 := blk_frozen BK188.out 0; have hfz41_1 := blk_frozen BK188.out 1; obtain ⟨Ao42, co42, eo42⟩ := Kd.V_slice HO_8.out; subst eo42) | ((with_reducible refine gate_callee (f := 57) rfl ?_); refine goesA (some 38) Tryz.func57 #[.slice A1_1 l1_1.length c1_1, .slice Ao42 t194.length co42] ?_; (with_reducible refine (nat_Sub.calls kj4 _ _ l1_1 _ _ t194 t204 t205 _ ?side1 ?side2 ?side3 ?side4 A31.out).mono ?_); (case side1 => exact kC2 ((Kd.C_below HR1_1.out HB.out))); (case side2 => exact HC1_1.out); (case side3 => exact kC2 ((Kd.V_reads' HO_8.out).2.2)); (case side4 => exact (Kd.V_reads' HO_8.out).2.1); rintro e w43 ⟨v206, rfl, ho0, hb⟩; refine ⟨_, rfl, ?_⟩; have n0_ := am (Kd.R_elder' (rR HO_7.out) (Kd.R_base ho0) hb); have n1_ := am (Kd.V_elder' (rV HO_8.out) (Kd.R_base ho0) hb); have n2_ := am (Kd.R_elder' (rR HO200.out) (Kd.R_base ho0) hb); have n3_ := am (Kd.R_elder' (rR HO203.out) (Kd.R_base ho0) hb); have n4_ := am (Kd.R_lower (Kd.R_new' (Kd.R_new' (Kd.R_new' ho0 (Kd.R_lt (rR HO_7.out))) (Kd.R_lt (rR HO200.out))) (Kd.R_lt (rR HO203.out))) (below_size bB)); have n5_ := am (blk_below (g := gb187) (o := .cells #[.bool a0_0, .slice A0_1 l0_1.length c0_1] 49 (0, 0)) (bk BK187.out) hb); have n6_ := am (blk_below (g := gb188) (o := .cells #[.bool a1_0, .slice A1_1 l1_1.length c1_1] 49 (0, 0)) (bk BK188.out) hb); have n7_ := am (blk_below (g := gb189) (o := .cells #[.bool false, .slice none 0 0] 49 (0, 0)) (bk BK189.out) hb); have n8_ := am (blk_below (g := gb190) (o := .cells #[.bool false, .slice none 0 0] 49 (0, 0)) (bk BK190.out) hb); have n9_ := am (below_step bB hb); clear HO_7; clear HO_8; clear HO200; clear HO203; clear BK187; clear BK188; clear BK189; clear BK190; clear HB; have HO_7 := n0_; have HO_8 := n1_; have HO200 := n2_; have HO203 := n3_; have HO207 := n4_; have BK187 := n5_; have BK188 := n6_; have BK189 := n7_; have BK190 := n8_; have HB := n9_; clear n0_ n1_ n2_ n3_ n4_ n5_ n6_ n7_ n8_ n9_; (try clear hb); (try clear hb2); (try clear hk); (try clear hi); (try clear ho0); have hnb44 := NB187_189.out; have hnc44 := NB189_187.out; have hnb45 := NB187_190.out; have hnc45 := NB190_187.out; have hcz46_0 : w43.cell? ⟨gb187, 0, none⟩ = some (.bool a0_0) := (blk_cell BK187.out 0).trans rfl; have hcz46_1 : w43.cell? ⟨gb187, 1, none⟩ = some (.slice A0_1 l0_1.length c0_1) := (blk_cell BK187.out 1).trans rfl; have hfz46_0 := blk_frozen BK187.out 0; have hfz46_1 := blk_frozen BK187.out 1; have hcz47_0 : w43.cell? ⟨gb188, 0, none⟩ = some (.bool a1_0) := (blk_cell BK188.out 0).trans rfl; have hcz47_1 : w43.cell? ⟨gb188, 1, none⟩ = some (.slice A1_1 l1_1.length c1_1) := (blk_cell BK188.out 1).trans rfl; have hfz47_0 := blk_frozen BK188.out 0; have hfz47_1 := blk_frozen BK188.out 1; obtain ⟨Ao48, co48, eo48⟩ := Kd.R_slice HO203.out; subst eo48) | ((with_reducible refine gate_callee (f := 52) rfl ?_); refine goesA (some 47) Tryz.func52 #[.bool (a0_0 != a1_0), .slice Ao48 t201.length co48] ?_; (with_reducible refine (integer_Make.calls kj4 (a0_0 != a1_0) _ _ t201 t208 t209 _ ?side1 ?side2 A32.out).mono ?_); (case side1 => exact kC2 ((Kd.R_reads' HO203.out).2.2)); (case side2 => exact (Kd.R_reads' HO203.out).2.1); rintro e w49 ⟨v210, rfl, ho0, hb⟩; refine ⟨_, rfl, ?_⟩; have n0_ := am (Kd.R_elder' (rR HO_7.out) (Kd.R_base ho0) hb); have n1_ := am (Kd.V_elder' (rV HO_8.out) (Kd.R_base ho0) hb); have n2_ := am (Kd.R_elder' (rR HO200.out) (Kd.R_base ho0) hb); have n3_ := am (Kd.R_elder' (rR HO203.out) (Kd.R_base ho0) hb); have n4_ := am (Kd.R_elder' (rR HO207.out) (Kd.R_base ho0) hb); have n5_ := am (Kd.R_lower (Kd.R_new' (Kd.R_new' (Kd.R_new' (Kd.R_new' ho0 (Kd.R_lt (rR HO_7.out))) (Kd.R_lt (rR HO200.out))) (Kd.R_lt (rR HO203.out))) (Kd.R_lt (rR HO207.out))) (below_size bB)); have n6_ := am (blk_below (g := gb187) (o := .cells #[.bool a0_0, .slice A0_1 l0_1.length c0_1] 49 (0, 0)) (bk BK187.out) hb); have n7_ := am (blk_below (g := gb188) (o := .cells #[.bool a1_0, .slice A1_1 l1_1.length c1_1] 49 (0, 0)) (bk BK188.out) hb); have n8_ := am (blk_below (g := gb189) (o := .cells #[.bool false, .slice none 0 0] 49 (0, 0)) (bk BK189.out) hb); have n9_ := am (blk_below (g := gb190) (o := .cells #[.bool false, .slice none 0 0] 49 (0, 0)) (bk BK190.out) hb); have n10_ := am (below_step bB hb); clear HO_7; clear HO_8; clear HO200; clear HO203; clear HO207; clear BK187; clear BK188; clear BK189; clear BK190; clear HB; have HO_7 := n0_; have HO_8 := n1_; have HO200 := n2_; have HO203 := n3_; have HO207 := n4_; have HO211 := n5_; have BK187 := n6_; have BK188 := n7_; have BK189 := n8_; have BK190 := n9_; have HB := n10_; clear n0_ n1_ n2_ n3_ n4_ n5_ n6_ n7_ n8_ n9_ n10_; (try clear hb); (try clear hb2); (try clear hk); (try clear hi); (try clear ho0); obtain ⟨Ao50, co50, eo50⟩ := Kd.R_slice HO207.out; subst eo50) | ((with_reducible refine gate_callee (f := 52) rfl ?_); refine goesA (some 49) Tryz.func52 #[.bool false, .slice Ao50 t204.length co50] ?_; (with_reducible refine (integer_Make.calls kj4 false _ _ t204 t212 t213 _ ?side1 ?side2 A33.out).mono ?_); (case side1 => exact kC2 ((Kd.R_reads' HO207.out).2.2)); (case side2 => exact (Kd.R_reads' HO207.out).2.1); rintro e w51 ⟨v214, rfl, ho0, hb⟩; refine ⟨_, rfl, ?_⟩; have n0_ := am (Kd.R_elder' (rR HO_7.out) (Kd.R_base ho0) hb); have n1_ := am (Kd.V_elder' (rV HO_8.out) (Kd.R_base ho0) hb); have n2_ := am (Kd.R_elder' (rR HO200.out) (Kd.R_base ho0) hb); have n3_ := am (Kd.R_elder' (rR HO203.out) (Kd.R_base ho0) hb); have n4_ := am (Kd.R_elder' (rR HO207.out) (Kd.R_base ho0) hb); have n5_ := am (Kd.R_elder' (rR HO211.out) (Kd.R_base ho0) hb); have n6_ := am (Kd.R_lower (Kd.R_new' (Kd.R_new' (Kd.R_new' (Kd.R_new' (Kd.R_new' ho0 (Kd.R_lt (rR HO_7.out))) (Kd.R_lt (rR HO200.out))) (Kd.R_lt (rR HO203.out))) (Kd.R_lt (rR HO207.out))) (Kd.R_lt (rR HO211.out))) (below_size bB)); have n7_ := am (blk_below (g := gb187) (o := .cells #[.bool a0_0, .slice A0_1 l0_1.length c0_1] 49 (0, 0)) (bk BK187.out) hb); have n8_ := am (blk_below (g := gb188) (o := .cells #[.bool a1_0, .slice A1_1 l1_1.length c1_1] 49 (0, 0)) (bk BK188.out) hb); have n9_ := am (blk_below (g := gb189) (o := .cells #[.bool false, .slice none 0 0] 49 (0, 0)) (bk BK189.out) hb); have n10_ := am (blk_below (g := gb190) (o := .cells #[.bool false, .slice none 0 0] 49 (0, 0)) (bk BK190.out) hb); have n11_ := am (below_step bB hb); clear HO_7; clear HO_8; clear HO200; clear HO203; clear HO207; clear HO211; clear BK187; clear BK188; clear BK189; clear BK190; clear HB; have HO_7 := n0_; have HO_8 := n1_; have HO200 := n2_; have HO203 := n3_; have HO207 := n4_; have HO211 := n5_; have HO215 := n6_; have BK187 := n7_; have BK188 := n8_; have BK189 := n9_; have BK190 := n10_; have HB := n11_; clear n0_ n1_ n2_ n3_ n4_ n5_ n6_ n7_ n8_ n9_ n10_ n11_; (try clear hb); (try clear hb2); (try clear hk); (try clear hi); (try clear ho0); have hnb52 := NB189_190.out; have hnc52 := NB190_189.out; have hcz53_0 : w51.cell? ⟨gb189, 0, none⟩ = some (.bool false) := (blk_cell BK189.out 0).trans rfl; have hcz53_1 : w51.cell? ⟨gb189, 1, none⟩ = some (.slice none 0 0) := (blk_cell BK189.out 1).trans rfl; have hfz53_0 := blk_frozen BK189.out 0; have hfz53_1 := blk_frozen BK189.out 1; obtain ⟨Ao54, co54, eo54⟩ := Kd.R_slice HO211.out; subst eo54; have hcz55_0 : w51.cell? ⟨gb190, 0, none⟩ = some (.bool false) := (blk_cell BK190.out 0).trans rfl; have hcz55_1 : w51.cell? ⟨gb190, 1, none⟩ = some (.slice none 0 0) := (blk_cell BK190.out 1).trans rfl; have hfz55_0 := blk_frozen BK190.out 0; have hfz55_1 := blk_frozen BK190.out 1; obtain ⟨Ao56, co56, eo56⟩ := Kd.R_slice HO215.out; subst eo56))
     refine bodyPost_ret (results_list (rs := [.cell 4 49, .cell 5 49, .tmp 6]) rfl (by simp) (.cell gb189 49 #[.bool t208, .slice Ao54 t209.length co54] (0, 0) _ rfl (by (with_reducible repeat (first | refine blk_drewN ?_ _ | refine blk_drew ?_ | refine blk_alloc ?_ _)); refine blk_far ?_ NB189_190.out _; (with_reducible repeat (first | refine blk_drewN ?_ _ | refine blk_drew ?_ | refine blk_alloc ?_ _)); refine blk_far ?_ NB189_190.out _; (with_reducible repeat (first | refine blk_drewN ?_ _ | refine blk_drew ?_ | refine blk_alloc ?_ _)); refine blk_put (cs := #[.bool t208, .slice none 0 0]) ?_ 1 _ rfl; (with_reducible repeat (first | refine blk_drewN ?_ _ | refine blk_drew ?_ | refine blk_alloc ?_ _)); refine blk_put (cs := #[.bool false, .slice none 0 0]) ?_ 0 _ rfl; (with_reducible repeat (first | refine blk_drewN ?_ _ | refine blk_drew ?_ | refine blk_alloc ?_ _)); exact BK189.out) Tryz.underlying49 rfl (by kernel_rfl) (.cell gb190 49 #[.bool t212, .slice Ao56 t213.length co56] (0, 0) _ rfl (by (with_reducible repeat (first | refine blk_drewN ?_ _ | refine blk_drew ?_ | refine blk_alloc ?_ _)); refine blk_put (cs := #[.bool t212, .slice none 0 0]) ?_ 1 _ rfl; (with_reducible repeat (first | refine blk_drewN ?_ _ | refine blk_drew ?_ | refine blk_alloc ?_ _)); refine blk_put (cs := #[.bool false, .slice none 0 0]) ?_ 0 _ rfl; (with_reducible repeat (first | refine blk_drewN ?_ _ | refine blk_drew ?_ | refine blk_alloc ?_ _)); refine blk_far ?_ NB190_189.out _; (with_reducible repeat (first | refine blk_drewN ?_ _ | refine blk_drew ?_ | refine blk_alloc ?_ _)); refine blk_far ?_ NB190_189.out _; (with_reducible repeat (first | refine blk_drewN ?_ _ | refine blk_drew ?_ | refine blk_alloc ?_ _)); exact BK190.out) Tryz.underlying49 rfl (by kernel_rfl) (.tmp .nil)))) rfl ?_
     exact ⟨_, _, eqR, by (with_reducible repeat (first | apply Kd.R_alloc | apply Kd.R_drewN | apply Kd.R_drew)); exact Kd.R_mono (Kd.R_far (p := ⟨gb190, 1, none⟩) (Kd.R_far (p := ⟨gb190, 0, none⟩) (Kd.R_far (p := ⟨gb189, 1, none⟩) (Kd.R_far (p := ⟨gb189, 0, none⟩) (Kd.R_types (Kd.R_types HO211.out BK189.out (by decide)) BK190.out (by decide)) (fun _ hk => hk.1.2) (.bool t208)) (fun _ hk => hk.1.2) (.slice Ao54 t209.length co54)) (fun _ hk => hk.2) (.bool t212)) (fun _ hk => hk.2) (.slice Ao56 t213.length co56)) (fun _ hk => hk.1.1.2), by (with_reducible repeat (first | apply Kd.R_alloc | apply Kd.R_drewN | apply Kd.R_drew)); exact Kd.R_mono (Kd.R_far (p := ⟨gb190, 1, none⟩) (Kd.R_far (p := ⟨gb190, 0, none⟩) (Kd.R_far (p := ⟨gb189, 1, none⟩) (Kd.R_far (p := ⟨gb189, 0, none⟩) (Kd.R_types (Kd.R_types HO215.out BK189.out (by decide)) BK190.out (by decide)) (fun _ hk => hk.1.2) (.bool t208)) (fun _ hk => hk.1.2) (.slice Ao54 t209.length co54)) (fun _ hk => hk.2) (.bool t212)) (fun _ hk => hk.2) (.slice Ao56 t213.length co56)) (fun _ hk => hk.1.1.2), bB⟩
   replace c28 := Bool.eq_false_iff.mpr c28
   subst c28
   have H1 : ((integer_Make.f kj4 (a0_0 != a1_0) t191).bind fun bt216 => ((integer_Make.f kj4 false t194).bind fun bt220 => (some (bt216.1, bt216.2, bt220.1, bt220.2, 0)))) = some (r1, r2, r3, r4, r5) := by rw [if_neg (show ¬ (false = true) by decide)] at H; exact H
   clear H
   have H := H1
   clear H1
   obtain ⟨⟨t216, t217⟩, A570, H⟩ := Option.bind_eq_some_iff.mp H
   try dsimp only at H
   have A57 := am A570
   clear A570
   obtain ⟨⟨t220, t221⟩, A580, H⟩ := Option.bind_eq_some_iff.mp H
   try dsimp only at H
   have A58 := am A580
   clear A580
   simp only [Option.some.injEq, Prod.mk.injEq] at H
   obtain ⟨rfl, rfl, rfl, rfl, rfl⟩ := H
   have hnb59 := NB187_188.out
   have hnc59 := NB188_187.out
   have hnb60 := NB187_189.out
   have hnc60 := NB189_187.out
   have hnb61 := NB187_190.out
   have hnc61 := NB190_187.out
   have hcz62_0 : wc.cell? ⟨gb187, 0, none⟩ = some (.bool a0_0) := (blk_cell BK187.out 0).trans rfl
   have hcz62_1 : wc.cell? ⟨gb187, 1, none⟩ = some (.slice A0_1 l0_1.length c0_1) := (blk_cell BK187.out 1).trans rfl
   have hfz62_0 := blk_frozen BK187.out 0
   have hfz62_1 := blk_frozen BK187.out 1
   have hnb63 := NB188_189.out
   have hnc63 := NB189_188.out
   have hnb64 := NB188_190.out
   have hnc64 := NB190_188.out
   have hcz65_0 : wc.cell? ⟨gb188, 0, none⟩ = some (.bool a1_0) := (blk_cell BK188.out 0).trans rfl
   have hcz65_1 : wc.cell? ⟨gb188, 1, none⟩ = some (.slice A1_1 l1_1.length c1_1) := (blk_cell BK188.out 1).trans rfl
   have hfz65_0 := blk_frozen BK188.out 0
   have hfz65_1 := blk_frozen BK188.out 1
   obtain ⟨Ao66, co66, eo66⟩ := Kd.R_slice HO_7.out
   subst eo66
   go_wp2_with (first | ((with_reducible refine gate_callee (f := 52) rfl ?_); refine goesA (some 47) Tryz.func52 #[.bool (a0_0 != a1_0), .slice Ao66 t191.length co66] ?_; (with_reducible refine (integer_Make.calls kj4 (a0_0 != a1_0) _ _ t191 t216 t217 _ ?side1 ?side2 A57.out).mono ?_); (case side1 => exact kC2 ((Kd.R_reads' HO_7.out).2.2)); (case side2 => exact (Kd.R_reads' HO_7.out).2.1); rintro e w67 ⟨v218, rfl, ho0, hb⟩; refine ⟨_, rfl, ?_⟩; have n0_ := am (Kd.R_elder' (rR HO_7.out) (Kd.R_base ho0) hb); have n1_ := am (Kd.V_elder' (rV HO_8.out) (Kd.R_base ho0) hb); have n2_ := am (Kd.R_lower (Kd.R_new' ho0 (Kd.R_lt (rR HO_7.out))) (below_size bB)); have n3_ := am (blk_below (g := gb187) (o := .cells #[.bool a0_0, .slice A0_1 l0_1.length c0_1] 49 (0, 0)) (bk BK187.out) hb); have n4_ := am (blk_below (g := gb188) (o := .cells #[.bool a1_0, .slice A1_1 l1_1.length c1_1] 49 (0, 0)) (bk BK188.out) hb); have n5_ := am (blk_below (g := gb189) (o := .cells #[.bool false, .slice none 0 0] 49 (0, 0)) (bk BK189.out) hb); have n6_ := am (blk_below (g := gb190) (o := .cells #[.bool false, .slice none 0 0] 49 (0, 0)) (bk BK190.out) hb); have n7_ := am (below_step bB hb); clear HO_7; clear HO_8; clear BK187; clear BK188; clear BK189; clear BK190; clear HB; have HO_7 := n0_; have HO_8 := n1_; have HO219 := n2_; have BK187 := n3_; have BK188 := n4_; have BK189 := n5_; have BK190 := n6_; have HB := n7_; clear n0_ n1_ n2_ n3_ n4_ n5_ n6_ n7_; (try clear hb); (try clear hb2); (try clear hk); (try clear hi); (try clear ho0); obtain ⟨Ao68, co68, eo68⟩ := Kd.V_slice HO_8.out; subst eo68) | ((with_reducible refine gate_callee (f := 52) rfl ?_); refine goesA (some 49) Tryz.func52 #[.bool false, .slice Ao68 t194.length co68] ?_; (with_reducible refine (integer_Make.calls kj4 false _ _ t194 t220 t221 _ ?side1 ?side2 A58.out).mono ?_); (case side1 => exact kC2 ((Kd.V_reads' HO_8.out).2.2)); (case side2 => exact (Kd.V_reads' HO_8.out).2.1); rintro e w69 ⟨v222, rfl, ho0, hb⟩; refine ⟨_, rfl, ?_⟩; have n0_ := am (Kd.R_elder' (rR HO_7.out) (Kd.R_base ho0) hb); have n1_ := am (Kd.V_elder' (rV HO_8.out) (Kd.R_base ho0) hb); have n2_ := am (Kd.R_elder' (rR HO219.out) (Kd.R_base ho0) hb); have n3_ := am (Kd.R_lower (Kd.R_new' (Kd.R_new' ho0 (Kd.R_lt (rR HO_7.out))) (Kd.R_lt (rR HO219.out))) (below_size bB)); have n4_ := am (blk_below (g := gb187) (o := .cells #[.bool a0_0, .slice A0_1 l0_1.length c0_1] 49 (0, 0)) (bk BK187.out) hb); have n5_ := am (blk_below (g := gb188) (o := .cells #[.bool a1_0, .slice A1_1 l1_1.length c1_1] 49 (0, 0)) (bk BK188.out) hb); have n6_ := am (blk_below (g := gb189) (o := .cells #[.bool false, .slice none 0 0] 49 (0, 0)) (bk BK189.out) hb); have n7_ := am (blk_below (g := gb190) (o := .cells #[.bool false, .slice none 0 0] 49 (0, 0)) (bk BK190.out) hb); have n8_ := am (below_step bB hb); clear HO_7; clear HO_8; clear HO219; clear BK187; clear BK188; clear BK189; clear BK190; clear HB; have HO_7 := n0_; have HO_8 := n1_; have HO219 := n2_; have HO223 := n3_; have BK187 := n4_; have BK188 := n5_; have BK189 := n6_; have BK190 := n7_; have HB := n8_; clear n0_ n1_ n2_ n3_ n4_ n5_ n6_ n7_ n8_; (try clear hb); (try clear hb2); (try clear hk); (try clear hi); (try clear ho0); have hnb70 := NB189_190.out; have hnc70 := NB190_189.out; have hcz71_0 : w69.cell? ⟨gb189, 0, none⟩ = some (.bool false) := (blk_cell BK189.out 0).trans rfl; have hcz71_1 : w69.cell? ⟨gb189, 1, none⟩ = some (.slice none 0 0) := (blk_cell BK189.out 1).trans rfl; have hfz71_0 := blk_frozen BK189.out 0; have hfz71_1 := blk_frozen BK189.out 1; obtain ⟨Ao72, co72, eo72⟩ := Kd.R_slice HO219.out; subst eo72; have hcz73_0 : w69.cell? ⟨gb190, 0, none⟩ = some (.bool false) := (blk_cell BK190.out 0).trans rfl; have hcz73_1 : w69.cell? ⟨gb190, 1, none⟩ = some (.slice none 0 0) := (blk_cell BK190.out 1).trans rfl; have hfz73_0 := blk_frozen BK190.out 0; have hfz73_1 := blk_frozen BK190.out 1; obtain ⟨Ao74, co74, eo74⟩ := Kd.R_slice HO223.out; subst eo74))
   refine bodyPost_ret (results_list (rs := [.cell 4 49, .cell 5 49, .tmp 6]) rfl (by simp) (.cell gb189 49 #[.bool t216, .slice Ao72 t217.length co72] (0, 0) _ rfl (by (with_reducible repeat (first | refine blk_drewN ?_ _ | refine blk_drew ?_ | refine blk_alloc ?_ _)); refine blk_far ?_ NB189_190.out _; (with_reducible repeat (first | refine blk_drewN ?_ _ | refine blk_drew ?_ | refine blk_alloc ?_ _)); refine blk_far ?_ NB189_190.out _; (with_reducible repeat (first | refine blk_drewN ?_ _ | refine blk_drew ?_ | refine blk_alloc ?_ _)); refine blk_put (cs := #[.bool t216, .slice none 0 0]) ?_ 1 _ rfl; (with_reducible repeat (first | refine blk_drewN ?_ _ | refine blk_drew ?_ | refine blk_alloc ?_ _)); refine blk_put (cs := #[.bool false, .slice none 0 0]) ?_ 0 _ rfl; (with_reducible repeat (first | refine blk_drewN ?_ _ | refine blk_drew ?_ | refine blk_alloc ?_ _)); exact BK189.out) Tryz.underlying49 rfl (by kernel_rfl) (.cell gb190 49 #[.bool t220, .slice Ao74 t221.length co74] (0, 0) _ rfl (by (with_reducible repeat (first | refine blk_drewN ?_ _ | refine blk_drew ?_ | refine blk_alloc ?_ _)); refine blk_put (cs := #[.bool t220, .slice none 0 0]) ?_ 1 _ rfl; (with_reducible repeat (first | refine blk_drewN ?_ _ | refine blk_drew ?_ | refine blk_alloc ?_ _)); refine blk_put (cs := #[.bool false, .slice none 0 0]) ?_ 0 _ rfl; (with_reducible repeat (first | refine blk_drewN ?_ _ | refine blk_drew ?_ | refine blk_alloc ?_ _)); refine blk_far ?_ NB190_189.out _; (with_reducible repeat (first | refine blk_drewN ?_ _ | refine blk_drew ?_ | refine blk_alloc ?_ _)); refine blk_far ?_ NB190_189.out _; (with_reducible repeat (first | refine blk_drewN ?_ _ | refine blk_drew ?_ | refine blk_alloc ?_ _)); exact BK190.out) Tryz.underlying49 rfl (by kernel_rfl) (.tmp .nil)))) rfl ?_
   exact ⟨_, _, eqR, by (with_reducible repeat (first | apply Kd.R_alloc | apply Kd.R_drewN | apply Kd.R_drew)); exact Kd.R_mono (Kd.R_far (p := ⟨gb190, 1, none⟩) (Kd.R_far (p := ⟨gb190, 0, none⟩) (Kd.R_far (p := ⟨gb189, 1, none⟩) (Kd.R_far (p := ⟨gb189, 0, none⟩) (Kd.R_types (Kd.R_types HO219.out BK189.out (by decide)) BK190.out (by decide)) (fun _ hk => hk.1.2) (.bool t216)) (fun _ hk => hk.1.2) (.slice Ao72 t217.length co72)) (fun _ hk => hk.2) (.bool t220)) (fun _ hk => hk.2) (.slice Ao74 t221.length co74)) (fun _ hk => hk.1.1.2), by (with_reducible repeat (first | apply Kd.R_alloc | apply Kd.R_drewN | apply Kd.R_drew)); exact Kd.R_mono (Kd.R_far (p := ⟨gb190, 1, none⟩) (Kd.R_far (p := ⟨gb190, 0, none⟩) (Kd.R_far (p := ⟨gb189, 1, none⟩) (Kd.R_far (p := ⟨gb189, 0, none⟩) (Kd.R_types (Kd.R_types HO223.out BK189.out (by decide)) BK190.out (by decide)) (fun _ hk => hk.1.2) (.bool t216)) (fun _ hk => hk.1.2) (.slice Ao72 t217.length co72)) (fun _ hk => hk.2) (.bool t220)) (fun _ hk => hk.2) (.slice Ao74 t221.length co74)) (fun _ hk => hk.1.1.2), bB⟩
def modp_Reduce.l0 : Nat → List Int → List (S56) → Int → Int → Bool → List Int → Option (List Int)
 | 0, _, _, _, _, _, _ => none
 | k + 1, x5, x20, x21, x22, x233000, x233001 => if x22 < x21 then (if 0 ≤ x22 then (if x22 < (x20.length : Int) then ((integer_DivMod.f k ((rd_T56 x20 x22).f0) ((rd_T56 x20 x22).f1) x233000 x233001).bind fun bt235 => ((nat_Low.f k bt235.2.2.2.1).bind fun bt246 => (if x22 < (x5.length : Int) then (modp_Reduce.l0 k (x5.set (x22 : Int).toNat ((bt246.1) % 4294967296)) x20 x21 (wrap64 (x22 + 1)) x233000 x233001) else (none)))) else (none)) else (none)) else ((modp_trim.f k x5).bind fun t249 => (some t249))
def modp_Reduce.f (k : Nat) (l0 : List (S56)) (a1 : Int) : Option (List Int) := if 0 ≤ (l0.length : Int) then (if ((l0.length : Int) : Int).toNat ≤ 70368744177664 then ((integer_Of.f k (wrap64 (a1))).bind fun bt228 => (modp_Reduce.l0 k (List.replicate ((l0.length : Int) : Int).toNat 0) l0 (l0.length : Int) 0 bt228.1 bt228.2)) else (none)) else (none)
theorem modp_Reduce.calls (k : Nat) (A0 : Option Addr) (c0 : Nat) (l0 : List (S56)) (a1 : Int) (r : List Int) (w : World) (hr0 : Kd.C k56 w A0 l0.length l0) (hc0 : l0.length ≤ c0) (h : modp_Reduce.f k l0 a1 = some r) :
   Calls Tryz.prog 7 #[.slice A0 l0.length c0, .int .u32 a1] w fun e w' => ∃ v0_ : Value, e = .returned (v0_) ∧ Kd.V (Kd.int .u32) 23 w' w.heap.size (fun k_ => (w.heap.size ≤ k_)) v0_ r ∧ Below w.heap.size w w' := by
 have hu56 := Tryz.underlying49
 have HR0 := am hr0
 have HC0 := am hc0
 clear hr0 hc0
 have HB := am (Below.refl w.heap.size w)
 have H := h; unfold modp_Reduce.f at H
 clear h
 by_cases c3 : 0 ≤ (l0.length : Int)
 case neg => exact nn c3 H
 rw [if_pos c3] at H
 have c3b0 := eq_true c3
 have c3b1 : decide (0 ≤ (l0.length : Int)) = true := decide_eq_true c3
 clear c3
 by_cases c4 : ((l0.length : Int) : Int).toNat ≤ 70368744177664
 case neg => exact nn c4 H
 rw [if_pos c4] at H
 have c4b0 := eq_true c4
 have c4b1 : decide (((l0.length : Int) : Int).toNat ≤ 70368744177664) = true := decide_eq_true c4
 clear c4
 obtain ⟨y225, hy225⟩ : ∃ y_ : List Int, y_ = (List.replicate ((l0.length : Int) : Int).toNat 0) := ⟨_, rfl⟩
 replace H : ((integer_Of.f k (wrap64 (a1))).bind fun bt228 => (modp_Reduce.l0 k y225 l0 (l0.length : Int) 0 bt228.1 bt228.2)) = some r := by first | (rw [hy225]; exact H) | exact H
 have Ny225 := am hy225
 clear hy225
 obtain ⟨⟨t228, t229⟩, A50, H⟩ := Option.bind_eq_some_iff.mp H
 try dsimp only at H
 have A5 := am A50
 clear A50
 have H' := am H
 clear H
 go_enter Tryz.func7, Tryz.ntmps7
 go_wp2_with (first | ((with_reducible refine gate_dst (N := 16) rfl ?_); refine Kd.R_make (Kd.int .u32) _ 23 rfl (N := 16) rfl 27 _ _ rfl (l0.length : Int) rfl rfl Tryz.underlying27 (.int .u32 0) 4 info23 rfl (by decide) (by omega) 0 (ok := fun _ => True) (okp := fun _ => True) rfl (fun _ hk => hk) trivial (of_decide_eq_true as_) (Nat.le_trans (Nat.mul_le_mul_right _ (of_decide_eq_true as_ : (l0.length : Int).toNat ≤ 70368744177664)) (by omega)) (Below.refl _ _) (Nat.le_refl _) ?_; intro v226 w6 ho7 hb hg_ hnew_; clear hg_ hnew_; (first | rw [← Ny225.out] at ho7 | (simp only [Int.reduceToNat] at ho7; rw [← Ny225.out] at ho7)); have n0_ := am (Kd.R_lower (Kd.R_newM (M := fun k_ => (w.heap.size ≤ k_)) ho7 (below_size bB) (fun k_ h_ => h_)) (below_size bB)); have n1_ := am (below_step bB hb); clear HB; have HO227 := n0_; have HB := n1_; clear n0_ n1_; clear hb ho7) | ((with_reducible refine gate_callee (f := 26) rfl ?_); refine goesA (some 19) Tryz.func26 #[.int .i64 (wrap64 (a1))] ?_; (with_reducible refine (integer_Of.calls k (wrap64 (a1)) t228 t229 _ A5.out).mono ?_); rintro e w8 ⟨v230, rfl, ho0, hb⟩; refine ⟨_, rfl, ?_⟩; have n0_ := am (Kd.R_elder' (rR HO227.out) (Kd.R_base ho0) hb); have n1_ := am (Kd.R_lower (Kd.R_new' (Kd.R_newM (M := fun k_ => (w.heap.size ≤ k_)) ho0 (below_size bB) (fun k_ h_ => h_)) (Kd.R_lt (rR HO227.out))) (below_size bB)); have n2_ := am (below_step bB hb); clear HO227; clear HB; have HO227 := n0_; have HO231 := n1_; have HB := n2_; clear n0_ n1_ n2_; (try clear hb); (try clear hb2); (try clear hk); (try clear hi); (try clear ho0)) | ((with_reducible refine gate_dst (N := 6) rfl ?_); refine boxE (N := 6) (cs := #[.bool false, .slice none 0 0]) (t := 49) ?_; intro gb232 hg w9 hbox hb; have n0_ := am (Kd.R_below (rR HO227.out) hb); have n1_ := am (Kd.R_below (rR HO231.out) hb); have n2_ := am (below_step bB hb); have n3_ := am (hbox); have n4_ := am ((by rw [hg]; exact (below_size bB) : w.heap.size ≤ gb232)); have n5_ := am ((by rw [hg]; exact (below_size bB) : w.heap.size ≤ gb232)); clear HO227; clear HO231; clear HB; have HO227 := n0_; have HO231 := n1_; have HB := n2_; have BK232 := n3_; have GW232 := n4_; have GE232 := n5_; clear n0_ n1_ n2_ n3_ n4_ n5_; clear hb hbox hg; have hcz10_0 : w9.cell? ⟨gb232, 0, none⟩ = some (.bool false) := (blk_cell BK232.out 0).trans rfl; have hcz10_1 : w9.cell? ⟨gb232, 1, none⟩ = some (.slice none 0 0) := (blk_cell BK232.out 1).trans rfl; have hfz10_0 := blk_frozen BK232.out 0; have hfz10_1 := blk_frozen BK232.out 1; obtain ⟨Ao11, co11, eo11⟩ := Kd.R_slice HO231.out; subst eo11))
 go_loopg [22] k (fun kq v22 w' => ∃ (x5_1 : List Int) (x22_1 : Int), v22 = .int .i64 x22_1 ∧ Aside0 (modp_Reduce.l0 kq x5_1 l0 (l0.length : Int) x22_1 t228 t229 = some r) ∧ Aside0 (kq ≤ k) ∧ Aside0 (Kd.R (Kd.int .u32) 23 w' w.heap.size (fun k_ => (w.heap.size ≤ k_) ∧ some k_ ≠ ((.slice Ao11 t229.length co11) : Value).ownBlock) v226 x5_1) ∧ Aside0 (Kd.R (Kd.int .u32) 23 w' w.heap.size (fun k_ => (w.heap.size ≤ k_) ∧ some k_ ≠ (v226 : Value).ownBlock) (.slice Ao11 t229.length co11) t229) ∧ Aside0 (w'.heap[gb232]? = some (.cells #[.bool t228, (.slice Ao11 t229.length co11)] 49 (0, 0))) ∧ Aside0 (Below w.heap.size w w'))
 case atStart => exact ⟨(y225), (0), eqS, H', ⟨Nat.le_refl _⟩, ⟨by (with_reducible repeat (first | apply Kd.R_alloc | apply Kd.R_drewN | apply Kd.R_drew)); exact Kd.R_mono (Kd.R_far (p := ⟨gb232, 1, none⟩) (Kd.R_far (p := ⟨gb232, 0, none⟩) (Kd.R_types HO227.out BK232.out (by decide)) (fun _ hk => hk.2) (.bool t228)) (fun _ hk => hk.2) (.slice Ao11 t229.length co11)) (fun _ hk => ⟨hk.1.1.1, hk.1.2⟩)⟩, ⟨by (with_reducible repeat (first | apply Kd.R_alloc | apply Kd.R_drewN | apply Kd.R_drew)); exact Kd.R_mono (Kd.R_far (p := ⟨gb232, 1, none⟩) (Kd.R_far (p := ⟨gb232, 0, none⟩) (Kd.R_types HO231.out BK232.out (by decide)) (fun _ hk => hk.2) (.bool t228)) (fun _ hk => hk.2) (.slice Ao11 t229.length co11)) (fun _ hk => ⟨hk.1.1.1, hk.1.2⟩)⟩, ⟨by (with_reducible repeat (first | refine blk_drewN ?_ _ | refine blk_drew ?_ | refine blk_alloc ?_ _)); refine blk_put (cs := #[.bool t228, .slice none 0 0]) ?_ 1 _ rfl; (with_reducible repeat (first | refine blk_drewN ?_ _ | refine blk_drew ?_ | refine blk_alloc ?_ _)); refine blk_put (cs := #[.bool false, .slice none 0 0]) ?_ 0 _ rfl; (with_reducible repeat (first | refine blk_drewN ?_ _ | refine blk_drew ?_ | refine blk_alloc ?_ _)); exact BK232.out⟩, ⟨bB⟩⟩
 clear H'
 (try clear c2); (try clear p2); (try clear c3); (try clear c3b0); (try clear c3b1); (try clear c4); (try clear c4b0); (try clear c4b1); (try clear c5); (try clear p6); (try clear hcz10_0); (try clear hcz10_1); (try clear hfz10_0); (try clear hfz10_1)
 obtain ⟨x5_1, x22_1, rfl, HA, HK1, HO_5, HO_233001, BK232, HB⟩ := hrel
 rcases gk with _ | k1
 · exact absurd HA.out (by simp [modp_Reduce.l0])
 have H := HA.out
 clear HA
 simp only [modp_Reduce.l0] at H
 by_cases c12 : x22_1 < (l0.length : Int)
 case neg =>
   rw [if_neg c12] at H
   have c12b0 : decide (x22_1 < (l0.length : Int)) = false := decide_eq_false c12
   clear c12
   obtain ⟨t249, A400, H⟩ := Option.bind_eq_some_iff.mp H
   replace H : (some t249) = some r := H
   have A40 := am A400
   clear A400
   obtain rfl := Option.some.inj H
   obtain ⟨Ao41, co41, eo41⟩ := Kd.R_slice HO_5.out
   subst eo41
   go_wp2_with (first | ((with_reducible refine gate_callee (f := 29) rfl ?_); refine goesA (some 47) Tryz.func29 #[.slice Ao41 x5_1.length co41] ?_; (with_reducible refine (modp_trim.calls k1 (fun k_ => some k_ = (.slice Ao41 x5_1.length co41 : Value).ownBlock) _ _ x5_1 t249 _ ?side1 A40.out).mono ?_); (case side1 => exact Kd.R_V (Kd.R_tight rfl (Kd.R_types (HO_5.out) BK232.out (by decide)))); rintro e w42 ⟨v250, rfl, ho0, hb⟩; refine ⟨_, rfl, ?_⟩; have n0_ := am (Kd.R_below (rR HO_5.out) hb); have n1_ := am (Kd.R_below (rR HO_233001.out) hb); have n2_ := am (Kd.V_lower (Kd.V_mono (ok' := fun k_ => (w.heap.size ≤ k_) ∧ some k_ ≠ (.slice Ao11 t229.length co11 : Value).ownBlock ∧ k_ ≠ gb232) ho0 (fun k_ hk_ => ⟨Or.elim hk_ (fun hs_ => ((Kd.R_types (HO_5.out) BK232.out (by decide)).1 k_ hs_.symm).1.1) (fun hn_ => (Nat.le_trans (below_size bB) hn_)), Or.elim hk_ (fun hs_ => ((Kd.R_types (HO_5.out) BK232.out (by decide)).1 k_ hs_.symm).1.2) (fun hn_ => (Kd.fresh' (Kd.R_lt (rR HO_233001.out)) k_ hn_)), Or.elim hk_ (fun hs_ => ((Kd.R_types (HO_5.out) BK232.out (by decide)).1 k_ hs_.symm).2) (fun hn_ => (Kd.freshB (g := gb232) (o := .cells #[.bool t228, .slice Ao11 t229.length co11] 49 (0, 0)) (bk BK232.out) k_ hn_))⟩)) (below_size bB)); have n3_ := am (blk_below (g := gb232) (o := .cells #[.bool t228, .slice Ao11 t229.length co11] 49 (0, 0)) (bk BK232.out) hb); have n4_ := am (below_step bB hb); clear HO_5; clear HO_233001; clear BK232; clear HB; have HO_5 := n0_; have HO_233001 := n1_; have HO251 := n2_; have BK232 := n3_; have HB := n4_; clear n0_ n1_ n2_ n3_ n4_; (try clear hb); (try clear hb2); (try clear hk); (try clear hi); (try clear ho0)))
   go_ret
   exact ⟨_, eqR, by (with_reducible repeat (first | apply Kd.V_alloc | apply Kd.V_drewN | apply Kd.V_drew)); exact Kd.V_mono HO251.out (fun _ hk => hk.1), bB⟩
 rw [if_pos c12] at H
 have c12b0 : decide (x22_1 < (l0.length : Int)) = true := decide_eq_true c12
 clear c12
 by_cases c13 : 0 ≤ x22_1
 case neg => exact nn c13 H
 rw [if_pos c13] at H
 have c13b0 : decide (0 ≤ x22_1) = true := decide_eq_true c13
 clear c13
 by_cases c14 : x22_1 < (l0.length : Int)
 case neg => exact nn c14 H
 rw [if_pos c14] at H
 have c14b0 : decide (x22_1 < (l0.length : Int)) = true := decide_eq_true c14
 clear c14
 obtain ⟨⟨t235, t236, t239, t240, t243⟩, A150, H⟩ := Option.bind_eq_some_iff.mp H
 try dsimp only at H
 have A15 := am A150
 clear A150
 obtain ⟨⟨t246, t247⟩, A160, H⟩ := Option.bind_eq_some_iff.mp H
 try dsimp only at H
 have A16 := am A160
 clear A160
 by_cases c17 : x22_1 < (x5_1.length : Int)
 case neg => exact nn c17 H
 rw [if_pos c17] at H
 have c17b0 : decide (x22_1 < (x5_1.length : Int)) = true := decide_eq_true c17
 clear c17
 obtain ⟨y248, hy248⟩ : ∃ y_ : List Int, y_ = (x5_1.set (x22_1 : Int).toNat ((t246) % 4294967296)) := ⟨_, rfl⟩
 replace H : (modp_Reduce.l0 k1 y248 l0 (l0.length : Int) (wrap64 (x22_1 + 1)) t228 t229) = some r := by first | (rw [hy248]; exact H) | exact H
 have Ny248 := am hy248
 clear hy248
 have H' := am H
 clear H
 have p233 : 0 ≤ (x22_1 : Int) := of_decide_eq_true as_
 have q233 : x22_1 < (l0.length : Int) := of_decide_eq_true as_
 obtain ⟨ad233, A233_1, c233_1, e233, hx233_0, hx233_1, hl233_1, hi233_1⟩ := at_T56 HR0.out x22_1 p233 q233
 cases e233
 replace hx233_0 := (HB.out.cell (World.block_lt_of_cell? w _ hx233_0)).trans hx233_0
 replace hx233_1 := (HB.out.cell (World.block_lt_of_cell? w _ hx233_1)).trans hx233_1
 have HR233_1 := am hi233_1
 have HC233_1 := am hl233_1
 clear hi233_1 hl233_1
 replace p233 := eq_true p233
 replace q233 := eq_true q233
 go_wp2_with (first | ((with_reducible refine gate_dst (N := 8) rfl ?_); refine boxE (N := 8) (cs := #[.bool false, .slice none 0 0]) (t := 49) ?_; intro gb234 hg w19 hbox hb; have n0_ := am (Kd.R_below (rR HO_5.out) hb); have n1_ := am (Kd.R_below (rR HO_233001.out) hb); have n2_ := am (blk_below (g := gb232) (o := .cells #[.bool t228, .slice Ao11 t229.length co11] 49 (0, 0)) (bk BK232.out) hb); have n3_ := am (below_step bB hb); have n4_ := am (hbox); have n5_ := am ((by rw [hg]; exact (below_size bB) : w.heap.size ≤ gb234)); have n6_ := am ((by rw [hg]; exact (below_size bB) : w.heap.size ≤ gb234)); have n7_ := am ((by rw [hg]; exact Nat.ne_of_lt (blk_lt (g := gb232) (o := .cells #[.bool t228, .slice Ao11 t229.length co11] 49 (0, 0)) (bk BK232.out)) : gb232 ≠ gb234)); have n8_ := am ((by rw [hg]; exact Nat.ne_of_gt (blk_lt (g := gb232) (o := .cells #[.bool t228, .slice Ao11 t229.length co11] 49 (0, 0)) (bk BK232.out)) : gb234 ≠ gb232)); clear HO_5; clear HO_233001; clear BK232; clear HB; have HO_5 := n0_; have HO_233001 := n1_; have BK232 := n2_; have HB := n3_; have BK234 := n4_; have GW234 := n5_; have GE234 := n6_; have NB232_234 := n7_; have NB234_232 := n8_; clear n0_ n1_ n2_ n3_ n4_ n5_ n6_ n7_ n8_; clear hb hbox hg; have hnb20 := NB234_232.out; have hnc20 := NB232_234.out; have hcz21_0 : w19.cell? ⟨gb234, 0, none⟩ = some (.bool false) := (blk_cell BK234.out 0).trans rfl; have hcz21_1 : w19.cell? ⟨gb234, 1, none⟩ = some (.slice none 0 0) := (blk_cell BK234.out 1).trans rfl; have hfz21_0 := blk_frozen BK234.out 0; have hfz21_1 := blk_frozen BK234.out 1; have hcz22_0 : w19.cell? ⟨gb232, 0, none⟩ = some (.bool t228) := (blk_cell BK232.out 0).trans rfl; have hcz22_1 : w19.cell? ⟨gb232, 1, none⟩ = some (.slice Ao11 t229.length co11) := (blk_cell BK232.out 1).trans rfl; have hfz22_0 := blk_frozen BK232.out 0; have hfz22_1 := blk_frozen BK232.out 1) | ((with_reducible refine gate_callee (f := 27) rfl ?_); refine goesA (some 30) Tryz.func27 #[.agg #[.bool ((rd_T56 l0 x22_1).f0), .slice A233_1 ((rd_T56 l0 x22_1).f1).length c233_1], .agg #[.bool t228, .slice Ao11 t229.length co11]] ?_; (with_reducible refine (integer_DivMod.calls k1 ((rd_T56 l0 x22_1).f0) _ _ ((rd_T56 l0 x22_1).f1) t228 _ _ t229 t235 t236 t239 t240 t243 _ ?side1 ?side2 ?side3 ?side4 A15.out).mono ?_); (case side1 => exact Kd.C_below HR233_1.out bB); (case side2 => exact HC233_1.out); (case side3 => refine (Kd.R_reads' (e := 23) (base := w.heap.size) (ok := fun k_ => ((w.heap.size ≤ k_) ∧ some k_ ≠ (v226 : Value).ownBlock)) (n := t229.length) (c := co11) ?_).2.2; exact (by (with_reducible repeat (first | apply Kd.R_alloc | apply Kd.R_drewN | apply Kd.R_drew)); exact (Kd.R_mono (Kd.R_far (p := ⟨gb234, 1, none⟩) (Kd.R_far (p := ⟨gb234, 0, none⟩) (Kd.R_types HO_233001.out BK234.out (by decide)) (fun _ hk => hk.2) (.bool ((rd_T56 l0 x22_1).f0))) (fun _ hk => hk.2) (.slice A233_1 ((rd_T56 l0 x22_1).f1).length c233_1)) (fun _ h_ => h_.1)))); (case side4 => exact (Kd.R_reads' HO_233001.out).2.1); rintro e w23 ⟨v237, v241, rfl, ho0, ho1, hb⟩; refine ⟨_, rfl, ?_⟩; have n0_ := am (Kd.R_mono (Kd.R_told (Kd.R_told (Kd.R_old (by (with_reducible repeat (first | apply Kd.R_alloc | apply Kd.R_drewN | apply Kd.R_drew)); exact (Kd.R_mono (Kd.R_far (p := ⟨gb234, 1, none⟩) (Kd.R_far (p := ⟨gb234, 0, none⟩) (Kd.R_types HO_5.out BK234.out (by decide)) (fun _ hk => hk.2) (.bool ((rd_T56 l0 x22_1).f0))) (fun _ hk => hk.2) (.slice A233_1 ((rd_T56 l0 x22_1).f1).length c233_1)) (fun _ h_ => h_.1))) hb) (Kd.R_base ho0)) (Kd.R_base ho1)) (fun _ h_ => h_.1)); have n1_ := am (Kd.R_mono (Kd.R_told (Kd.R_told (Kd.R_old (by (with_reducible repeat (first | apply Kd.R_alloc | apply Kd.R_drewN | apply Kd.R_drew)); exact (Kd.R_mono (Kd.R_far (p := ⟨gb234, 1, none⟩) (Kd.R_far (p := ⟨gb234, 0, none⟩) (Kd.R_types HO_233001.out BK234.out (by decide)) (fun _ hk => hk.2) (.bool ((rd_T56 l0 x22_1).f0))) (fun _ hk => hk.2) (.slice A233_1 ((rd_T56 l0 x22_1).f1).length c233_1)) (fun _ h_ => h_.1))) hb) (Kd.R_base ho0)) (Kd.R_base ho1)) (fun _ h_ => h_.1)); have n2_ := am (Kd.R_lower (Kd.R_new' (Kd.R_new' (Kd.R_newM (M := fun k_ => (w.heap.size ≤ k_)) ho0 (below_size bB) (fun k_ h_ => h_)) (Kd.R_lt (by (with_reducible repeat (first | apply Kd.R_alloc | apply Kd.R_drewN | apply Kd.R_drew)); exact (Kd.R_mono (Kd.R_far (p := ⟨gb234, 1, none⟩) (Kd.R_far (p := ⟨gb234, 0, none⟩) (Kd.R_types HO_5.out BK234.out (by decide)) (fun _ hk => hk.2) (.bool ((rd_T56 l0 x22_1).f0))) (fun _ hk => hk.2) (.slice A233_1 ((rd_T56 l0 x22_1).f1).length c233_1)) (fun _ h_ => h_.1))))) (Kd.R_lt (by (with_reducible repeat (first | apply Kd.R_alloc | apply Kd.R_drewN | apply Kd.R_drew)); exact (Kd.R_mono (Kd.R_far (p := ⟨gb234, 1, none⟩) (Kd.R_far (p := ⟨gb234, 0, none⟩) (Kd.R_types HO_233001.out BK234.out (by decide)) (fun _ hk => hk.2) (.bool ((rd_T56 l0 x22_1).f0))) (fun _ hk => hk.2) (.slice A233_1 ((rd_T56 l0 x22_1).f1).length c233_1)) (fun _ h_ => h_.1))))) (below_size bB)); have n3_ := am (Kd.R_lower (Kd.R_new' (Kd.R_new' (Kd.R_newM (M := fun k_ => (w.heap.size ≤ k_)) ho1 (below_size bB) (fun k_ h_ => h_)) (Kd.R_lt (by (with_reducible repeat (first | apply Kd.R_alloc | apply Kd.R_drewN | apply Kd.R_drew)); exact (Kd.R_mono (Kd.R_far (p := ⟨gb234, 1, none⟩) (Kd.R_far (p := ⟨gb234, 0, none⟩) (Kd.R_types HO_5.out BK234.out (by decide)) (fun _ hk => hk.2) (.bool ((rd_T56 l0 x22_1).f0))) (fun _ hk => hk.2) (.slice A233_1 ((rd_T56 l0 x22_1).f1).length c233_1)) (fun _ h_ => h_.1))))) (Kd.R_lt (by (with_reducible repeat (first | apply Kd.R_alloc | apply Kd.R_drewN | apply Kd.R_drew)); exact (Kd.R_mono (Kd.R_far (p := ⟨gb234, 1, none⟩) (Kd.R_far (p := ⟨gb234, 0, none⟩) (Kd.R_types HO_233001.out BK234.out (by decide)) (fun _ hk => hk.2) (.bool ((rd_T56 l0 x22_1).f0))) (fun _ hk => hk.2) (.slice A233_1 ((rd_T56 l0 x22_1).f1).length c233_1)) (fun _ h_ => h_.1))))) (below_size bB)); have n4_ := am (blk_below (g := gb232) (o := .cells #[.bool t228, .slice Ao11 t229.length co11] 49 (0, 0)) (by (with_reducible repeat (first | refine blk_drewN ?_ _ | refine blk_drew ?_ | refine blk_alloc ?_ _)); refine blk_far ?_ NB232_234.out _; (with_reducible repeat (first | refine blk_drewN ?_ _ | refine blk_drew ?_ | refine blk_alloc ?_ _)); refine blk_far ?_ NB232_234.out _; (with_reducible repeat (first | refine blk_drewN ?_ _ | refine blk_drew ?_ | refine blk_alloc ?_ _)); exact BK232.out) hb); have n5_ := am (blk_below (g := gb234) (o := .cells #[.bool ((rd_T56 l0 x22_1).f0), .slice A233_1 ((rd_T56 l0 x22_1).f1).length c233_1] 49 (0, 0)) (by (with_reducible repeat (first | refine blk_drewN ?_ _ | refine blk_drew ?_ | refine blk_alloc ?_ _)); refine blk_put (cs := #[.bool ((rd_T56 l0 x22_1).f0), .slice none 0 0]) ?_ 1 _ rfl; (with_reducible repeat (first | refine blk_drewN ?_ _ | refine blk_drew ?_ | refine blk_alloc ?_ _)); refine blk_put (cs := #[.bool false, .slice none 0 0]) ?_ 0 _ rfl; (with_reducible repeat (first | refine blk_drewN ?_ _ | refine blk_drew ?_ | refine blk_alloc ?_ _)); exact BK234.out) hb); have n6_ := am (below_step bB hb); clear HO_5; clear HO_233001; clear BK232; clear BK234; clear HB; have HO_5 := n0_; have HO_233001 := n1_; have HO238 := n2_; have HO242 := n3_; have BK232 := n4_; have BK234 := n5_; have HB := n6_; clear n0_ n1_ n2_ n3_ n4_ n5_ n6_; (try clear hb); (try clear hb2); (try clear hk); (try clear hi); (try clear ho0); (try clear ho1)) | ((with_reducible refine gate_dst (N := 9) rfl ?_); refine boxE (N := 9) (cs := #[.bool false, .slice none 0 0]) (t := 49) ?_; intro gb244 hg w24 hbox hb; have n0_ := am (Kd.R_below (rR HO_5.out) hb); have n1_ := am (Kd.R_below (rR HO_233001.out) hb); have n2_ := am (Kd.R_below (rR HO238.out) hb); have n3_ := am (Kd.R_below (rR HO242.out) hb); have n4_ := am (blk_below (g := gb232) (o := .cells #[.bool t228, .slice Ao11 t229.length co11] 49 (0, 0)) (bk BK232.out) hb); have n5_ := am (blk_below (g := gb234) (o := .cells #[.bool ((rd_T56 l0 x22_1).f0), .slice A233_1 ((rd_T56 l0 x22_1).f1).length c233_1] 49 (0, 0)) (bk BK234.out) hb); have n6_ := am (below_step bB hb); have n7_ := am (hbox); have n8_ := am ((by rw [hg]; exact (below_size bB) : w.heap.size ≤ gb244)); have n9_ := am ((by rw [hg]; exact (below_size bB) : w.heap.size ≤ gb244)); have n10_ := am ((by rw [hg]; exact Nat.ne_of_lt (blk_lt (g := gb232) (o := .cells #[.bool t228, .slice Ao11 t229.length co11] 49 (0, 0)) (bk BK232.out)) : gb232 ≠ gb244)); have n11_ := am ((by rw [hg]; exact Nat.ne_of_gt (blk_lt (g := gb232) (o := .cells #[.bool t228, .slice Ao11 t229.length co11] 49 (0, 0)) (bk BK232.out)) : gb244 ≠ gb232)); have n12_ := am ((by rw [hg]; exact Nat.ne_of_lt (blk_lt (g := gb234) (o := .cells #[.bool ((rd_T56 l0 x22_1).f0), .slice A233_1 ((rd_T56 l0 x22_1).f1).length c233_1] 49 (0, 0)) (bk BK234.out)) : gb234 ≠ gb244)); have n13_ := am ((by rw [hg]; exact Nat.ne_of_gt (blk_lt (g := gb234) (o := .cells #[.bool ((rd_T56 l0 x22_1).f0), .slice A233_1 ((rd_T56 l0 x22_1).f1).length c233_1] 49 (0, 0)) (bk BK234.out)) : gb244 ≠ gb234)); clear HO_5; clear HO_233001; clear HO238; clear HO242; clear BK232; clear BK234; clear HB; have HO_5 := n0_; have HO_233001 := n1_; have HO238 := n2_; have HO242 := n3_; have BK232 := n4_; have BK234 := n5_; have HB := n6_; have BK244 := n7_; have GW244 := n8_; have GE244 := n9_; have NB232_244 := n10_; have NB244_232 := n11_; have NB234_244 := n12_; have NB244_234 := n13_; clear n0_ n1_ n2_ n3_ n4_ n5_ n6_ n7_ n8_ n9_ n10_ n11_ n12_ n13_; clear hb hbox hg) | ((with_reducible refine gate_dst (N := 10) rfl ?_); refine boxE (N := 10) (cs := #[.bool false, .slice none 0 0]) (t := 49) ?_; intro gb245 hg w25 hbox hb; have n0_ := am (Kd.R_below (rR HO_5.out) hb); have n1_ := am (Kd.R_below (rR HO_233001.out) hb); have n2_ := am (Kd.R_below (rR HO238.out) hb); have n3_ := am (Kd.R_below (rR HO242.out) hb); have n4_ := am (blk_below (g := gb232) (o := .cells #[.bool t228, .slice Ao11 t229.length co11] 49 (0, 0)) (bk BK232.out) hb); have n5_ := am (blk_below (g := gb234) (o := .cells #[.bool ((rd_T56 l0 x22_1).f0), .slice A233_1 ((rd_T56 l0 x22_1).f1).length c233_1] 49 (0, 0)) (bk BK234.out) hb); have n6_ := am (blk_below (g := gb244) (o := .cells #[.bool false, .slice none 0 0] 49 (0, 0)) (bk BK244.out) hb); have n7_ := am (below_step bB hb); have n8_ := am (hbox); have n9_ := am ((by rw [hg]; exact (below_size bB) : w.heap.size ≤ gb245)); have n10_ := am ((by rw [hg]; exact (below_size bB) : w.heap.size ≤ gb245)); have n11_ := am ((by rw [hg]; exact Nat.ne_of_lt (blk_lt (g := gb232) (o := .cells #[.bool t228, .slice Ao11 t229.length co11] 49 (0, 0)) (bk BK232.out)) : gb232 ≠ gb245)); have n12_ := am ((by rw [hg]; exact Nat.ne_of_gt (blk_lt (g := gb232) (o := .cells #[.bool t228, .slice Ao11 t229.length co11] 49 (0, 0)) (bk BK232.out)) : gb245 ≠ gb232)); have n13_ := am ((by rw [hg]; exact Nat.ne_of_lt (blk_lt (g := gb234) (o := .cells #[.bool ((rd_T56 l0 x22_1).f0), .slice A233_1 ((rd_T56 l0 x22_1).f1).length c233_1] 49 (0, 0)) (bk BK234.out)) : gb234 ≠ gb245)); have n14_ := am ((by rw [hg]; exact Nat.ne_of_gt (blk_lt (g := gb234) (o := .cells #[.bool ((rd_T56 l0 x22_1).f0), .slice A233_1 ((rd_T56 l0 x22_1).f1).length c233_1] 49 (0, 0)) (bk BK234.out)) : gb245 ≠ gb234)); have n15_ := am ((by rw [hg]; exact Nat.ne_of_lt (blk_lt (g := gb244) (o := .cells #[.bool false, .slice none 0 0] 49 (0, 0)) (bk BK244.out)) : gb244 ≠ gb245)); have n16_ := am ((by rw [hg]; exact Nat.ne_of_gt (blk_lt (g := gb244) (o := .cells #[.bool false, .slice none 0 0] 49 (0, 0)) (bk BK244.out)) : gb245 ≠ gb244)); clear HO_5; clear HO_233001; clear HO238; clear HO242; clear BK232; clear BK234; clear BK244; clear HB; have HO_5 := n0_; have HO_233001 := n1_; have HO238 := n2_; have HO242 := n3_; have BK232 := n4_; have BK234 := n5_; have BK244 := n6_; have HB := n7_; have BK245 := n8_; have GW245 := n9_; have GE245 := n10_; have NB232_245 := n11_; have NB245_232 := n12_; have NB234_245 := n13_; have NB245_234 := n14_; have NB244_245 := n15_; have NB245_244 := n16_; clear n0_ n1_ n2_ n3_ n4_ n5_ n6_ n7_ n8_ n9_ n10_ n11_ n12_ n13_ n14_ n15_ n16_; clear hb hbox hg; have hnb26 := NB244_232.out; have hnc26 := NB232_244.out; have hnb27 := NB244_234.out; have hnc27 := NB234_244.out; have hnb28 := NB244_245.out; have hnc28 := NB245_244.out; have hcz29_0 : w25.cell? ⟨gb244, 0, none⟩ = some (.bool false) := (blk_cell BK244.out 0).trans rfl; have hcz29_1 : w25.cell? ⟨gb244, 1, none⟩ = some (.slice none 0 0) := (blk_cell BK244.out 1).trans rfl; have hfz29_0 := blk_frozen BK244.out 0; have hfz29_1 := blk_frozen BK244.out 1; obtain ⟨Ao30, co30, eo30⟩ := Kd.R_slice HO238.out; subst eo30) | ((with_reducible refine gate_store (t := 49) (p := 9) rfl ?_); refine store_event (t := 49) (p := 9) (v := ?vo_w31) (w1 := ((w25.setCell ⟨gb244, 0, none⟩ (.bool t235)).setCell ⟨gb244, 1, none⟩ (.slice Ao30 t236.length co30))) ?hg ?ho ?hn ?hr ?_; (case ho => rfl); (case hg => rfl); (case hn => rfl); (case hr => first | (go_simp; done) | (go_simp; rfl)); intro w31 hw; have n0_ : Aside0 (Kd.R (Kd.int .u32) 23 w31 w.heap.size (fun k_ => (w.heap.size ≤ k_) ∧ some k_ ≠ (.slice Ao11 t229.length co11 : Value).ownBlock ∧ some k_ ≠ (.slice Ao30 t236.length co30 : Value).ownBlock ∧ some k_ ≠ (v241 : Value).ownBlock) v226 x5_1) := ⟨(by rw [hw]; exact (by (with_reducible repeat (first | apply Kd.R_alloc | apply Kd.R_drewN | apply Kd.R_drew)); exact Kd.R_mono (Kd.R_far (p := ⟨gb244, 1, none⟩) (Kd.R_far (p := ⟨gb244, 0, none⟩) (Kd.R_types HO_5.out BK244.out (by decide)) (fun _ hk => hk.2) (.bool t235)) (fun _ hk => hk.2) (.slice Ao30 t236.length co30)) (fun _ hk => ⟨hk.1.1.1.1, ⟨hk.1.1.1.2, ⟨hk.1.1.2, hk.1.2⟩⟩⟩)))⟩; have n1_ : Aside0 (Kd.R (Kd.int .u32) 23 w31 w.heap.size (fun k_ => (w.heap.size ≤ k_) ∧ some k_ ≠ (v226 : Value).ownBlock ∧ some k_ ≠ (.slice Ao30 t236.length co30 : Value).ownBlock ∧ some k_ ≠ (v241 : Value).ownBlock) (.slice Ao11 t229.length co11) t229) := ⟨(by rw [hw]; exact (by (with_reducible repeat (first | apply Kd.R_alloc | apply Kd.R_drewN | apply Kd.R_drew)); exact Kd.R_mono (Kd.R_far (p := ⟨gb244, 1, none⟩) (Kd.R_far (p := ⟨gb244, 0, none⟩) (Kd.R_types HO_233001.out BK244.out (by decide)) (fun _ hk => hk.2) (.bool t235)) (fun _ hk => hk.2) (.slice Ao30 t236.length co30)) (fun _ hk => ⟨hk.1.1.1.1, ⟨hk.1.1.1.2, ⟨hk.1.1.2, hk.1.2⟩⟩⟩)))⟩; have n2_ : Aside0 (Kd.R (Kd.int .u32) 23 w31 w.heap.size (fun k_ => (w.heap.size ≤ k_) ∧ some k_ ≠ (v226 : Value).ownBlock ∧ some k_ ≠ (.slice Ao11 t229.length co11 : Value).ownBlock ∧ some k_ ≠ (v241 : Value).ownBlock) (.slice Ao30 t236.length co30) t236) := ⟨(by rw [hw]; exact (by (with_reducible repeat (first | apply Kd.R_alloc | apply Kd.R_drewN | apply Kd.R_drew)); exact Kd.R_mono (Kd.R_far (p := ⟨gb244, 1, none⟩) (Kd.R_far (p := ⟨gb244, 0, none⟩) (Kd.R_types HO238.out BK244.out (by decide)) (fun _ hk => hk.2) (.bool t235)) (fun _ hk => hk.2) (.slice Ao30 t236.length co30)) (fun _ hk => ⟨hk.1.1.1.1, ⟨hk.1.1.2, ⟨hk.1.2, hk.1.1.1.2⟩⟩⟩)))⟩; have n3_ : Aside0 (Kd.R (Kd.int .u32) 23 w31 w.heap.size (fun k_ => (w.heap.size ≤ k_) ∧ some k_ ≠ (v226 : Value).ownBlock ∧ some k_ ≠ (.slice Ao11 t229.length co11 : Value).ownBlock ∧ some k_ ≠ (.slice Ao30 t236.length co30 : Value).ownBlock) v241 t240) := ⟨(by rw [hw]; exact (by (with_reducible repeat (first | apply Kd.R_alloc | apply Kd.R_drewN | apply Kd.R_drew)); exact Kd.R_mono (Kd.R_far (p := ⟨gb244, 1, none⟩) (Kd.R_far (p := ⟨gb244, 0, none⟩) (Kd.R_types HO242.out BK244.out (by decide)) (fun _ hk => hk.2) (.bool t235)) (fun _ hk => hk.2) (.slice Ao30 t236.length co30)) (fun _ hk => ⟨hk.1.1.1.1, ⟨hk.1.1.2, ⟨hk.1.2, hk.1.1.1.2⟩⟩⟩)))⟩; have n4_ : Aside0 (w31.heap[gb232]? = some (.cells #[.bool t228, .slice Ao11 t229.length co11] 49 (0, 0))) := ⟨(by rw [hw]; exact (by (with_reducible repeat (first | refine blk_drewN ?_ _ | refine blk_drew ?_ | refine blk_alloc ?_ _)); refine blk_far ?_ NB232_244.out _; (with_reducible repeat (first | refine blk_drewN ?_ _ | refine blk_drew ?_ | refine blk_alloc ?_ _)); refine blk_far ?_ NB232_244.out _; (with_reducible repeat (first | refine blk_drewN ?_ _ | refine blk_drew ?_ | refine blk_alloc ?_ _)); exact BK232.out))⟩; have n5_ : Aside0 (w31.heap[gb234]? = some (.cells #[.bool ((rd_T56 l0 x22_1).f0), .slice A233_1 ((rd_T56 l0 x22_1).f1).length c233_1] 49 (0, 0))) := ⟨(by rw [hw]; exact (by (with_reducible repeat (first | refine blk_drewN ?_ _ | refine blk_drew ?_ | refine blk_alloc ?_ _)); refine blk_far ?_ NB234_244.out _; (with_reducible repeat (first | refine blk_drewN ?_ _ | refine blk_drew ?_ | refine blk_alloc ?_ _)); refine blk_far ?_ NB234_244.out _; (with_reducible repeat (first | refine blk_drewN ?_ _ | refine blk_drew ?_ | refine blk_alloc ?_ _)); exact BK234.out))⟩; have n6_ : Aside0 (w31.heap[gb244]? = some (.cells #[.bool t235, .slice Ao30 t236.length co30] 49 (0, 0))) := ⟨(by rw [hw]; exact (by (with_reducible repeat (first | refine blk_drewN ?_ _ | refine blk_drew ?_ | refine blk_alloc ?_ _)); refine blk_put (cs := #[.bool t235, .slice none 0 0]) ?_ 1 _ rfl; (with_reducible repeat (first | refine blk_drewN ?_ _ | refine blk_drew ?_ | refine blk_alloc ?_ _)); refine blk_put (cs := #[.bool false, .slice none 0 0]) ?_ 0 _ rfl; (with_reducible repeat (first | refine blk_drewN ?_ _ | refine blk_drew ?_ | refine blk_alloc ?_ _)); exact BK244.out))⟩; have n7_ : Aside0 (w31.heap[gb245]? = some (.cells #[.bool false, .slice none 0 0] 49 (0, 0))) := ⟨(by rw [hw]; exact (by (with_reducible repeat (first | refine blk_drewN ?_ _ | refine blk_drew ?_ | refine blk_alloc ?_ _)); refine blk_far ?_ NB245_244.out _; (with_reducible repeat (first | refine blk_drewN ?_ _ | refine blk_drew ?_ | refine blk_alloc ?_ _)); refine blk_far ?_ NB245_244.out _; (with_reducible repeat (first | refine blk_drewN ?_ _ | refine blk_drew ?_ | refine blk_alloc ?_ _)); exact BK245.out))⟩; have n8_ : Aside0 (Below w.heap.size w w31) := ⟨(by rw [hw]; exact bB)⟩; clear hw; clear HO_5; clear HO_233001; clear HO238; clear HO242; clear BK232; clear BK234; clear BK244; clear BK245; clear HB; have HO_5 := n0_; have HO_233001 := n1_; have HO238 := n2_; have HO242 := n3_; have BK232 := n4_; have BK234 := n5_; have BK244 := n6_; have BK245 := n7_; have HB := n8_; clear n0_ n1_ n2_ n3_ n4_ n5_ n6_ n7_ n8_; have hnb32 := NB245_232.out; have hnc32 := NB232_245.out; have hnb33 := NB245_234.out; have hnc33 := NB234_245.out; have hcz34_0 : w31.cell? ⟨gb245, 0, none⟩ = some (.bool false) := (blk_cell BK245.out 0).trans rfl; have hcz34_1 : w31.cell? ⟨gb245, 1, none⟩ = some (.slice none 0 0) := (blk_cell BK245.out 1).trans rfl; have hfz34_0 := blk_frozen BK245.out 0; have hfz34_1 := blk_frozen BK245.out 1; obtain ⟨Ao35, co35, eo35⟩ := Kd.R_slice HO242.out; subst eo35) | ((with_reducible refine gate_store (t := 49) (p := 10) rfl ?_); refine store_event (t := 49) (p := 10) (v := ?vo_w36) (w1 := ((w31.setCell ⟨gb245, 0, none⟩ (.bool t239)).setCell ⟨gb245, 1, none⟩ (.slice Ao35 t240.length co35))) ?hg ?ho ?hn ?hr ?_; (case ho => rfl); (case hg => rfl); (case hn => rfl); (case hr => first | (go_simp; done) | (go_simp; rfl)); intro w36 hw; have n0_ : Aside0 (Kd.R (Kd.int .u32) 23 w36 w.heap.size (fun k_ => (w.heap.size ≤ k_) ∧ some k_ ≠ (.slice Ao11 t229.length co11 : Value).ownBlock ∧ some k_ ≠ (.slice Ao30 t236.length co30 : Value).ownBlock ∧ some k_ ≠ (.slice Ao35 t240.length co35 : Value).ownBlock) v226 x5_1) := ⟨(by rw [hw]; exact (by (with_reducible repeat (first | apply Kd.R_alloc | apply Kd.R_drewN | apply Kd.R_drew)); exact Kd.R_mono (Kd.R_far (p := ⟨gb245, 1, none⟩) (Kd.R_far (p := ⟨gb245, 0, none⟩) (Kd.R_types HO_5.out BK245.out (by decide)) (fun _ hk => hk.2) (.bool t239)) (fun _ hk => hk.2) (.slice Ao35 t240.length co35)) (fun _ hk => ⟨hk.1.1, ⟨hk.1.2.1, ⟨hk.1.2.2.1, hk.1.2.2.2⟩⟩⟩)))⟩; have n1_ : Aside0 (Kd.R (Kd.int .u32) 23 w36 w.heap.size (fun k_ => (w.heap.size ≤ k_) ∧ some k_ ≠ (v226 : Value).ownBlock ∧ some k_ ≠ (.slice Ao30 t236.length co30 : Value).ownBlock ∧ some k_ ≠ (.slice Ao35 t240.length co35 : Value).ownBlock) (.slice Ao11 t229.length co11) t229) := ⟨(by rw [hw]; exact (by (with_reducible repeat (first | apply Kd.R_alloc | apply Kd.R_drewN | apply Kd.R_drew)); exact Kd.R_mono (Kd.R_far (p := ⟨gb245, 1, none⟩) (Kd.R_far (p := ⟨gb245, 0, none⟩) (Kd.R_types HO_233001.out BK245.out (by decide)) (fun _ hk => hk.2) (.bool t239)) (fun _ hk => hk.2) (.slice Ao35 t240.length co35)) (fun _ hk => ⟨hk.1.1, ⟨hk.1.2.1, ⟨hk.1.2.2.1, hk.1.2.2.2⟩⟩⟩)))⟩; have n2_ : Aside0 (Kd.R (Kd.int .u32) 23 w36 w.heap.size (fun k_ => (w.heap.size ≤ k_) ∧ some k_ ≠ (v226 : Value).ownBlock ∧ some k_ ≠ (.slice Ao11 t229.length co11 : Value).ownBlock ∧ some k_ ≠ (.slice Ao35 t240.length co35 : Value).ownBlock) (.slice Ao30 t236.length co30) t236) := ⟨(by rw [hw]; exact (by (with_reducible repeat (first | apply Kd.R_alloc | apply Kd.R_drewN | apply Kd.R_drew)); exact Kd.R_mono (Kd.R_far (p := ⟨gb245, 1, none⟩) (Kd.R_far (p := ⟨gb245, 0, none⟩) (Kd.R_types HO238.out BK245.out (by decide)) (fun _ hk => hk.2) (.bool t239)) (fun _ hk => hk.2) (.slice Ao35 t240.length co35)) (fun _ hk => ⟨hk.1.1, ⟨hk.1.2.1, ⟨hk.1.2.2.1, hk.1.2.2.2⟩⟩⟩)))⟩; have n3_ : Aside0 (Kd.R (Kd.int .u32) 23 w36 w.heap.size (fun k_ => (w.heap.size ≤ k_) ∧ some k_ ≠ (v226 : Value).ownBlock ∧ some k_ ≠ (.slice Ao11 t229.length co11 : Value).ownBlock ∧ some k_ ≠ (.slice Ao30 t236.length co30 : Value).ownBlock) (.slice Ao35 t240.length co35) t240) := ⟨(by rw [hw]; exact (by (with_reducible repeat (first | apply Kd.R_alloc | apply Kd.R_drewN | apply Kd.R_drew)); exact Kd.R_mono (Kd.R_far (p := ⟨gb245, 1, none⟩) (Kd.R_far (p := ⟨gb245, 0, none⟩) (Kd.R_types HO242.out BK245.out (by decide)) (fun _ hk => hk.2) (.bool t239)) (fun _ hk => hk.2) (.slice Ao35 t240.length co35)) (fun _ hk => ⟨hk.1.1, ⟨hk.1.2.1, ⟨hk.1.2.2.1, hk.1.2.2.2⟩⟩⟩)))⟩; have n4_ : Aside0 (w36.heap[gb232]? = some (.cells #[.bool t228, .slice Ao11 t229.length co11] 49 (0, 0))) := ⟨(by rw [hw]; exact (by (with_reducible repeat (first | refine blk_drewN ?_ _ | refine blk_drew ?_ | refine blk_alloc ?_ _)); refine blk_far ?_ NB232_245.out _; (with_reducible repeat (first | refine blk_drewN ?_ _ | refine blk_drew ?_ | refine blk_alloc ?_ _)); refine blk_far ?_ NB232_245.out _; (with_reducible repeat (first | refine blk_drewN ?_ _ | refine blk_drew ?_ | refine blk_alloc ?_ _)); exact BK232.out))⟩; have n5_ : Aside0 (w36.heap[gb234]? = some (.cells #[.bool ((rd_T56 l0 x22_1).f0), .slice A233_1 ((rd_T56 l0 x22_1).f1).length c233_1] 49 (0, 0))) := ⟨(by rw [hw]; exact (by (with_reducible repeat (first | refine blk_drewN ?_ _ | refine blk_drew ?_ | refine blk_alloc ?_ _)); refine blk_far ?_ NB234_245.out _; (with_reducible repeat (first | refine blk_drewN ?_ _ | refine blk_drew ?_ | refine blk_alloc ?_ _)); refine blk_far ?_ NB234_245.out _; (with_reducible repeat (first | refine blk_drewN ?_ _ | refine blk_drew ?_ | refine blk_alloc ?_ _)); exact BK234.out))⟩; have n6_ : Aside0 (w36.heap[gb244]? = some (.cells #[.bool t235, .slice Ao30 t236.length co30] 49 (0, 0))) := ⟨(by rw [hw]; exact (by (with_reducible repeat (first | refine blk_drewN ?_ _ | refine blk_drew ?_ | refine blk_alloc ?_ _)); refine blk_far ?_ NB244_245.out _; (with_reducible repeat (first | refine blk_drewN ?_ _ | refine blk_drew ?_ | refine blk_alloc ?_ _)); refine blk_far ?_ NB244_245.out _; (with_reducible repeat (first | refine blk_drewN ?_ _ | refine blk_drew ?_ | refine blk_alloc ?_ _)); exact BK244.out))⟩; have n7_ : Aside0 (w36.heap[gb245]? = some (.cells #[.bool t239, .slice Ao35 t240.length co35] 49 (0, 0))) := ⟨(by rw [hw]; exact (by (with_reducible repeat (first | refine blk_drewN ?_ _ | refine blk_drew ?_ | refine blk_alloc ?_ _)); refine blk_put (cs := #[.bool t239, .slice none 0 0]) ?_ 1 _ rfl; (with_reducible repeat (first | refine blk_drewN ?_ _ | refine blk_drew ?_ | refine blk_alloc ?_ _)); refine blk_put (cs := #[.bool false, .slice none 0 0]) ?_ 0 _ rfl; (with_reducible repeat (first | refine blk_drewN ?_ _ | refine blk_drew ?_ | refine blk_alloc ?_ _)); exact BK245.out))⟩; have n8_ : Aside0 (Below w.heap.size w w36) := ⟨(by rw [hw]; exact bB)⟩; clear hw; clear HO_5; clear HO_233001; clear HO238; clear HO242; clear BK232; clear BK234; clear BK244; clear BK245; clear HB; have HO_5 := n0_; have HO_233001 := n1_; have HO238 := n2_; have HO242 := n3_; have BK232 := n4_; have BK234 := n5_; have BK244 := n6_; have BK245 := n7_; have HB := n8_; clear n0_ n1_ n2_ n3_ n4_ n5_ n6_ n7_ n8_; have hcz37_0 : w36.cell? ⟨gb245, 0, none⟩ = some (.bool t239) := (blk_cell BK245.out 0).trans rfl; have hcz37_1 : w36.cell? ⟨gb245, 1, none⟩ = some (.slice Ao35 t240.length co35) := (blk_cell BK245.out 1).trans rfl; have hfz37_0 := blk_frozen BK245.out 0; have hfz37_1 := blk_frozen BK245.out 1) | ((with_reducible refine gate_callee (f := 28) rfl ?_); refine goesA (some 37) Tryz.func28 #[.slice Ao35 t240.length co35] ?_; (with_reducible refine (nat_Low.calls k1 _ _ t240 t246 t247 _ ?side1 ?side2 A16.out).mono ?_); (case side1 => exact kC2 ((Kd.R_reads' HO242.out).2.2)); (case side2 => exact (Kd.R_reads' HO242.out).2.1); rintro e w' ⟨rfl, ⟨nd, rfl⟩⟩; refine ⟨_, rfl, ?_⟩; (try (rw [drewN_self w36]; generalize hq_ : World.drewN w36 _ = w36; have n0_ : Aside0 (Kd.R (Kd.int .u32) 23 w36 w.heap.size (fun k_ => (w.heap.size ≤ k_) ∧ some k_ ≠ (.slice Ao35 t240.length co35 : Value).ownBlock ∧ some k_ ≠ (.slice Ao11 t229.length co11 : Value).ownBlock ∧ some k_ ≠ (v226 : Value).ownBlock) (.slice Ao30 t236.length co30) t236) := ⟨by rw [← hq_]; exact (by (with_reducible repeat (first | apply Kd.R_alloc | apply Kd.R_drewN | apply Kd.R_drew)); exact Kd.R_mono HO238.out (fun _ hk => ⟨hk.1, ⟨hk.2.2.2, ⟨hk.2.2.1, hk.2.1⟩⟩⟩))⟩; have n1_ : Aside0 (Kd.R (Kd.int .u32) 23 w36 w.heap.size (fun k_ => (w.heap.size ≤ k_) ∧ some k_ ≠ (.slice Ao30 t236.length co30 : Value).ownBlock ∧ some k_ ≠ (.slice Ao11 t229.length co11 : Value).ownBlock ∧ some k_ ≠ (v226 : Value).ownBlock) (.slice Ao35 t240.length co35) t240) := ⟨by rw [← hq_]; exact (by (with_reducible repeat (first | apply Kd.R_alloc | apply Kd.R_drewN | apply Kd.R_drew)); exact Kd.R_mono HO242.out (fun _ hk => ⟨hk.1, ⟨hk.2.2.2, ⟨hk.2.2.1, hk.2.1⟩⟩⟩))⟩; have n2_ : Aside0 (Kd.R (Kd.int .u32) 23 w36 w.heap.size (fun k_ => (w.heap.size ≤ k_) ∧ some k_ ≠ (.slice Ao30 t236.length co30 : Value).ownBlock ∧ some k_ ≠ (.slice Ao35 t240.length co35 : Value).ownBlock ∧ some k_ ≠ (v226 : Value).ownBlock) (.slice Ao11 t229.length co11) t229) := ⟨by rw [← hq_]; exact (by (with_reducible repeat (first | apply Kd.R_alloc | apply Kd.R_drewN | apply Kd.R_drew)); exact Kd.R_mono HO_233001.out (fun _ hk => ⟨hk.1, ⟨hk.2.2.1, ⟨hk.2.2.2, hk.2.1⟩⟩⟩))⟩; have n3_ : Aside0 (Kd.R (Kd.int .u32) 23 w36 w.heap.size (fun k_ => (w.heap.size ≤ k_) ∧ some k_ ≠ (.slice Ao30 t236.length co30 : Value).ownBlock ∧ some k_ ≠ (.slice Ao35 t240.length co35 : Value).ownBlock ∧ some k_ ≠ (.slice Ao11 t229.length co11 : Value).ownBlock) v226 x5_1) := ⟨by rw [← hq_]; exact (by (with_reducible repeat (first | apply Kd.R_alloc | apply Kd.R_drewN | apply Kd.R_drew)); exact Kd.R_mono HO_5.out (fun _ hk => ⟨hk.1, ⟨hk.2.2.1, ⟨hk.2.2.2, hk.2.1⟩⟩⟩))⟩; have n4_ : Aside0 (w36.heap[gb232]? = some (.cells #[.bool t228, .slice Ao11 t229.length co11] 49 (0, 0))) := ⟨by rw [← hq_]; exact (bk BK232.out)⟩; have n5_ : Aside0 (w36.heap[gb234]? = some (.cells #[.bool ((rd_T56 l0 x22_1).f0), .slice A233_1 ((rd_T56 l0 x22_1).f1).length c233_1] 49 (0, 0))) := ⟨by rw [← hq_]; exact (bk BK234.out)⟩; have n6_ : Aside0 (w36.heap[gb244]? = some (.cells #[.bool t235, .slice Ao30 t236.length co30] 49 (0, 0))) := ⟨by rw [← hq_]; exact (bk BK244.out)⟩; have n7_ : Aside0 (w36.heap[gb245]? = some (.cells #[.bool t239, .slice Ao35 t240.length co35] 49 (0, 0))) := ⟨by rw [← hq_]; exact (bk BK245.out)⟩; have n8_ : Aside0 (Below w.heap.size w w36) := ⟨by rw [← hq_]; exact bB⟩; clear HO238 HO242 HO_233001 HO_5 BK232 BK234 BK244 BK245 HB hq_; have HO238 := n0_; have HO242 := n1_; have HO_233001 := n2_; have HO_5 := n3_; have BK232 := n4_; have BK234 := n5_; have BK244 := n6_; have BK245 := n7_; have HB := n8_; clear n0_ n1_ n2_ n3_ n4_ n5_ n6_ n7_ n8_)); have p18 : 0 ≤ (x22_1 : Int) := of_decide_eq_true as_; have q18 : (x22_1 : Int) < ((x5_1.length : Int) : Int) := of_decide_eq_true as_; obtain ⟨go18, co18, eo18, gb18, gl18, cl18, HG18⟩ := Kd.R_form HO_5.out (by omega); (first | cases eo18 | (injection eo18 with ea_ en_ ec_; (first | subst ea_ | (injection ea_ with ea_; subst ea_)); subst ec_; clear en_)); have GB18 := am gb18; have GG18 := am HG18; clear gb18 gl18 HG18; obtain ⟨hx18_0, hf18_0⟩ := Kd.R_celln 0 HO_5.out (x22_1 : Int) p18 q18; replace p18 := eq_true p18; replace q18 := eq_true q18; obtain ⟨hy38_, hz38_⟩ := Kd.R_celln 0 HO_5.out (x22_1 : Int) (of_decide_eq_true as_) (of_decide_eq_true as_); have HP38 := Kd.R_putg HO_5.out (x22_1 : Int) ((t246) % 4294967296)) | ((with_reducible refine gate_store (t := 23) (p := 44) rfl ?_); refine store_event (t := 23) (p := 44) (v := ?vo_w39) (w1 := (w36.setCell ⟨go18, (x22_1 : Int).toNat, none⟩ (.int .u32 ((t246) % 4294967296)))) ?hg ?ho ?hn ?hr ?_; (case ho => rfl); (case hg => rfl); (case hn => rfl); (case hr => first | (go_simp; done) | (go_simp; rfl)); intro w39 hw; have hg : w36.grownBy w39 (some go18) := (by rw [hw]; exact HP38.2); have hp_ : Kd.R (Kd.int .u32) 23 w39 w.heap.size (fun k_ => (w.heap.size ≤ k_) ∧ some k_ ≠ (.slice Ao11 t229.length co11 : Value).ownBlock ∧ some k_ ≠ (.slice Ao30 t236.length co30 : Value).ownBlock ∧ some k_ ≠ (.slice Ao35 t240.length co35 : Value).ownBlock) (.slice (some ⟨go18, 0, none⟩) x5_1.length co18) y248 := (by rw [hw, Ny248.out]; exact Kd.R_mono HP38.1 (fun _ hk => (by ((try simp only [and_assoc] at hk); (try simp only [and_assoc]); obtain ⟨h1_, h2_, h3_, h4_⟩ := hk; and_intros <;> assumption)))); clear HP38; have n0_ := am (hp_); have n1_ := am (Kd.R_after (v := (.slice (some ⟨go18, 0, none⟩) x5_1.length co18)) (v1 := (.slice (some ⟨go18, 0, none⟩) x5_1.length co18)) (ok := (fun k_ => (w.heap.size ≤ k_) ∧ some k_ ≠ (.slice Ao30 t236.length co30 : Value).ownBlock ∧ some k_ ≠ (.slice Ao35 t240.length co35 : Value).ownBlock)) (by (with_reducible repeat (first | apply Kd.R_alloc | apply Kd.R_drewN | apply Kd.R_drew)); exact Kd.R_mono HO_233001.out (fun _ hk => (by ((try simp only [and_assoc] at hk); (try simp only [and_assoc]); obtain ⟨h1_, h2_, h3_, h4_⟩ := hk; and_intros <;> assumption)))) hg (.inl rfl)); have n2_ := am (blk_grown (g := gb232) (o := .cells #[.bool t228, .slice Ao11 t229.length co11] 49 (0, 0)) (bk BK232.out) hg (Kd.R_ne HO_5.out BK232.out (by decide))); have n3_ := am (blk_grown (g := gb234) (o := .cells #[.bool ((rd_T56 l0 x22_1).f0), .slice A233_1 ((rd_T56 l0 x22_1).f1).length c233_1] 49 (0, 0)) (bk BK234.out) hg (Kd.R_ne HO_5.out BK234.out (by decide))); have n4_ := am (Kd.R_after (v := (.slice (some ⟨go18, 0, none⟩) x5_1.length co18)) (v1 := (.slice (some ⟨go18, 0, none⟩) x5_1.length co18)) (ok := (fun k_ => (w.heap.size ≤ k_) ∧ some k_ ≠ (.slice Ao11 t229.length co11 : Value).ownBlock ∧ some k_ ≠ (.slice Ao35 t240.length co35 : Value).ownBlock)) (by (with_reducible repeat (first | apply Kd.R_alloc | apply Kd.R_drewN | apply Kd.R_drew)); exact Kd.R_mono HO238.out (fun _ hk => (by ((try simp only [and_assoc] at hk); (try simp only [and_assoc]); obtain ⟨h1_, h2_, h3_, h4_⟩ := hk; and_intros <;> assumption)))) hg (.inl rfl)); have n5_ := am (Kd.R_after (v := (.slice (some ⟨go18, 0, none⟩) x5_1.length co18)) (v1 := (.slice (some ⟨go18, 0, none⟩) x5_1.length co18)) (ok := (fun k_ => (w.heap.size ≤ k_) ∧ some k_ ≠ (.slice Ao11 t229.length co11 : Value).ownBlock ∧ some k_ ≠ (.slice Ao30 t236.length co30 : Value).ownBlock)) (by (with_reducible repeat (first | apply Kd.R_alloc | apply Kd.R_drewN | apply Kd.R_drew)); exact Kd.R_mono HO242.out (fun _ hk => (by ((try simp only [and_assoc] at hk); (try simp only [and_assoc]); obtain ⟨h1_, h2_, h3_, h4_⟩ := hk; and_intros <;> assumption)))) hg (.inl rfl)); have n6_ := am (blk_grown (g := gb244) (o := .cells #[.bool t235, .slice Ao30 t236.length co30] 49 (0, 0)) (bk BK244.out) hg (Kd.R_ne HO_5.out BK244.out (by decide))); have n7_ := am (blk_grown (g := gb245) (o := .cells #[.bool t239, .slice Ao35 t240.length co35] 49 (0, 0)) (bk BK245.out) hg (Kd.R_ne HO_5.out BK245.out (by decide))); have n8_ := am ((by rw [hw]; exact below_set (HB.out) GB18.out : Below w.heap.size w w39)); clear HO_5; clear HO_233001; clear BK232; clear BK234; clear HO238; clear HO242; clear BK244; clear BK245; clear HB; have HO_5 := n0_; have HO_233001 := n1_; have BK232 := n2_; have BK234 := n3_; have HO238 := n4_; have HO242 := n5_; have BK244 := n6_; have BK245 := n7_; have HB := n8_; clear n0_ n1_ n2_ n3_ n4_ n5_ n6_ n7_ n8_; clear hg hw hp_))
 go_roundg k1
 case measure => have := HK1.out; omega
 case rel => exact ⟨(y248), (wrap64 (x22_1 + 1)), eqS, (by first | exact H' | (subst_vars; exact H')), ⟨by have := HK1.out; omega⟩, ⟨by (with_reducible repeat (first | apply Kd.R_alloc | apply Kd.R_drewN | apply Kd.R_drew)); exact Kd.R_mono HO_5.out (fun _ hk => (by ((try simp only [and_assoc] at hk); (try simp only [and_assoc]); obtain ⟨h1_, h2_, h3_, h4_⟩ := hk; and_intros <;> assumption)))⟩, ⟨by (with_reducible repeat (first | apply Kd.R_alloc | apply Kd.R_drewN | apply Kd.R_drew)); exact Kd.R_mono HO_233001.out (fun _ hk => (by ((try simp only [and_assoc] at hk); (try simp only [and_assoc]); obtain ⟨h1_, h2_, h3_, h4_⟩ := hk; and_intros <;> assumption)))⟩, ⟨by (with_reducible repeat (first | refine blk_drewN ?_ _ | refine blk_drew ?_ | refine blk_alloc ?_ _)); exact BK232.out⟩, ⟨bB⟩⟩
end Go.Proofs.YtjbcnppbcomaiaaGreatDoor.Q
namespace Go.Proofs.YtjbcnppbcomaiaaGreatDoor.Q
open Go.RowKit Go.Proofs.YtjbcnppbcomaiaaGreatDoorW.PrintWords
set_option linter.unusedVariables false
set_option linter.unusedSimpArgs false
theorem len_mono {a b m : Nat} (h : a ≤ b) (hb : (toL b).length ≤ m) : (toL a).length ≤ m := by
 rw [toL_length_le] at *
 omega
theorem or_add {a b i : Nat} (hb : b < 2 ^ i) : 2 ^ i * a ||| b = 2 ^ i * a + b := (Nat.two_pow_add_eq_or_of_lt hb a).symm
theorem toL_len_lt {a b : Nat} (h : (toL a).length < (toL b).length) : a < b := by
 have h1 := val_lt_toL a
 have h2 : b ≠ 0 := by
   intro h0
   rw [h0, toL_zero] at h
   simp at h
 have h3 := pow_le_val h2
 exact Nat.lt_of_lt_of_le h1 (Nat.le_trans (Nat.pow_le_pow_right (by omega) (by omega)) h3)
theorem bits_or64 {a b : Nat} (ha : a < 18446744073709551616) (hb : b < 18446744073709551616) : Go.bits .or .u64 (a : Int) (b : Int) = ((a ||| b : Nat) : Int) := by
 have h : a ||| b < 2 ^ 64 := Nat.or_lt_two_pow ha hb
 have e : Go.bits .or .u64 (a : Int) (b : Int) = IntKind.u64.wrap ((BitVec.ofInt 64 (a : Int) ||| BitVec.ofInt 64 (b : Int)).toNat : Int) := rfl
 rw [e, BitVec.ofInt_natCast, BitVec.ofInt_natCast, BitVec.toNat_or, BitVec.toNat_ofNat, BitVec.toNat_ofNat, Nat.mod_eq_of_lt ha, Nat.mod_eq_of_lt hb, u64w (by omega) (by omega)]
def cmpN (a b : Nat) : Int := if a < b then -1 else if b < a then 1 else 0
theorem make_l0 {x0 : List Int} (hl : Limbs x0) (hlen : x0.length < 35184372088832) : ∀ (n k : Nat), n < k → n ≤ x0.length → valN (x0.take n) = valN x0 → nat_Make.l0 k x0 (n : Int) = some (toL (valN x0)) := by
 intro n
 induction n with
 | zero =>
   intro k hk hn hv
   obtain ⟨k, rfl⟩ : ∃ m, k = m + 1 := ⟨k - 1, by omega⟩
   have h0 : valN x0 = 0 := by rw [← hv]; simp [valN]
   simp only [nat_Make.l0]
   rw [if_neg (by omega), if_pos (by omega), if_pos (by omega), h0, toL_zero]
   simp [slices_Clone.f]
 | succ n ih =>
   intro k hk hn hv
   obtain ⟨k, rfl⟩ : ∃ m, k = m + 1 := ⟨k - 1, by omega⟩
   have e : wrap64 (((n + 1 : Nat) : Int) - 1) = (n : Int) := by unfold wrap64; omega
   simp only [nat_Make.l0]
   rw [if_pos (by omega), e, if_pos (by omega), if_pos (by omega), rd_nat hl]
   by_cases hz : lim x0 n = 0
   · rw [hz, if_pos (by rfl)]
     refine ih k (by omega) (by omega) ?_
     rw [← hv, val_take_succ hl, hz]
     simp
   rw [if_neg (by omega), if_pos (by omega), if_pos (by omega)]
   have e2 : (((n + 1 : Nat) : Int)).toNat = n + 1 := by omega
   rw [e2]
   have hlt : (x0.take (n + 1)).length < 35184372088832 := by rw [List.length_take]; omega
   unfold slices_Clone.f
   rw [if_pos hlt, Option.bind_some, ← hv, canonN (limbs_take hl _)]
   intro hne
   rw [List.getLast_eq_getElem]
   have hl1 : (x0.take (n + 1)).length = n + 1 := by rw [List.length_take]; omega
   simp only [hl1, Nat.add_sub_cancel, List.getElem_take]
   intro h0
   apply hz
   have hnl : n < x0.length := by omega
   simp [lim, List.getD_eq_getElem?_getD, List.getElem?_eq_getElem hnl, h0]
theorem make_f {l : List Int} (hl : Limbs l) (hlen : l.length < 35184372088832) {k : Nat} (hk : l.length < k) : nat_Make.f k l = some (toL (valN l)) :=
 make_l0 hl hlen l.length k hk (Nat.le_refl _) (by rw [List.take_length])
theorem cmp_l0 {x y : List Int} (hx : Limbs x) (hy : Limbs y) (hlen : x.length < 4611686018427387904) : ∀ (n k : Nat), n < k → n ≤ x.length → n ≤ y.length → nat_Cmp.l0 k x y ((n : Int) - 1) = some (cmpN (valN (x.take n)) (valN (y.take n))) := by
 intro n
 induction n with
 | zero =>
   intro k hk h1 h2
   obtain ⟨k, rfl⟩ : ∃ m, k = m + 1 := ⟨k - 1, by omega⟩
   simp only [nat_Cmp.l0]
   rw [if_neg (by omega)]
   simp [cmpN, valN]
 | succ n ih =>
   intro k hk h1 h2
   obtain ⟨k, rfl⟩ : ∃ m, k = m + 1 := ⟨k - 1, by omega⟩
   have e0 : (((n + 1 : Nat) : Int) - 1) = (n : Int) := by omega
   have e : wrap64 ((n : Int) - 1) = (n : Int) - 1 := by unfold wrap64; omega
   rw [e0]
   simp only [nat_Cmp.l0]
   rw [if_pos (by omega), if_pos (by omega), if_pos (by omega), if_pos (by omega), rd_nat hx, rd_nat hy, e, val_take_succ hx, val_take_succ hy]
   have t1 := val_take_lt hx n
   have t2 := val_take_lt hy n
   generalize lim x n = a
   generalize lim y n = b
   generalize hp : valN (x.take n) = p at *
   generalize hq : valN (y.take n) = q at *
   generalize 4294967296 ^ n = M at *
   by_cases hab : a < b
   · rw [if_pos (by omega)]
     have : M * a + M ≤ M * b := by rw [← Nat.mul_succ]; exact Nat.mul_le_mul_left _ hab
     unfold cmpN
     rw [if_pos (by omega)]
   rw [if_neg (by omega)]
   by_cases hba : b < a
   · rw [if_pos (by omega)]
     have : M * b + M ≤ M * a := by rw [← Nat.mul_succ]; exact Nat.mul_le_mul_left _ hba
     unfold cmpN
     rw [if_neg (by omega), if_pos (by omega)]
   have : a = b := by omega
   subst this
   rw [if_neg (by omega), ih k (by omega) (by omega) (by omega)]
   unfold cmpN
   congr 1
   by_cases h3 : p < q
   · have g3 : p + M * a < q + M * a := by omega
     rw [if_pos h3, if_pos g3]
   have g3 : ¬ p + M * a < q + M * a := by omega
   rw [if_neg h3, if_neg g3]
   by_cases h4 : q < p
   · have g4 : q + M * a < p + M * a := by omega
     rw [if_pos h4, if_pos g4]
   · have g4 : ¬ q + M * a < p + M * a := by omega
     rw [if_neg h4, if_neg g4]
theorem cmp_f {a b k : Nat} (h1 : (toL a).length < 4611686018427387904) (h2 : (toL b).length < 4611686018427387904) (hk : (toL a).length < k) : nat_Cmp.f k (toL a) (toL b) = some (cmpN a b) := by
 unfold nat_Cmp.f
 by_cases he : (toL a).length = (toL b).length
 · rw [if_pos (by omega)]
   have e : wrap64 (((toL a).length : Int) - 1) = ((toL a).length : Int) - 1 := by unfold wrap64; omega
   rw [e, cmp_l0 (limbs_toL a) (limbs_toL b) h1 (toL a).length k hk (Nat.le_refl _) (by omega), List.take_length, he, List.take_length, val_toL, val_toL]
 rw [if_neg (by omega)]
 have e : wrap64 (((toL a).length : Int) - ((toL b).length : Int)) = ((toL a).length : Int) - ((toL b).length : Int) := by unfold wrap64; omega
 rw [e]
 congr 1
 by_cases h : (toL a).length < (toL b).length
 · have h3 := toL_len_lt h
   have e1 : cmpN a b = -1 := by unfold cmpN; rw [if_pos h3]
   rw [e1]
   unfold mx mn
   (repeat' split) <;> omega
 have h3 := toL_len_lt (show (toL b).length < (toL a).length by omega)
 have h4 : ¬ a < b := by omega
 have e1 : cmpN a b = 1 := by unfold cmpN; rw [if_neg h4, if_pos h3]
 rw [e1]
 unfold mx mn
 (repeat' split) <;> omega
theorem pow2of32 : (4294967296 : Nat) ^ 2 = 18446744073709551616 := by decide
theorem low_f {n k : Nat} (hk : 3 < k) : nat_Low.f k (toL n) = some (if n < 18446744073709551616 then ((n : Int), true) else (0, false)) := by
 unfold nat_Low.f
 by_cases h : n < 18446744073709551616
 case neg =>
   have hlen : ¬ (toL n).length ≤ 2 := by rw [toL_length_le, pow2of32]; exact h
   rw [if_pos (by omega), if_neg h]
 have hlen : (toL n).length ≤ 2 := by rw [toL_length_le, pow2of32]; exact h
 rw [if_neg (by omega), if_pos h]
 obtain ⟨k, rfl⟩ : ∃ m, k = m + 3 := ⟨k - 3, by omega⟩
 by_cases h0 : n = 0
 · subst h0
   rw [toL_zero]
   simp [nat_Low.l0]
 have e0 : toL n = ((n % 4294967296 : Nat) : Int) :: toL (n / 4294967296) := toL_pos h0
 have s0 : ∀ a : Nat, a < 4294967296 → Go.bits .or .u64 0 (shl .u64 (IntKind.u64.wrap (a : Int)) (wrap64 (32 * 0))) = (a : Int) := by
   intro a ha
   have e1 : shl .u64 (IntKind.u64.wrap (a : Int)) (wrap64 (32 * 0)) = (a : Int) := by
     rw [u64w (by omega) (by omega)]
     have : (wrap64 (32 * 0)).toNat = 0 := by unfold wrap64; omega
     simp only [shl, this, IntKind.bits, Nat.zero_min, Int.pow_zero, Int.mul_one]
     rw [u64w (by omega) (by omega)]
   rw [e1]
   have := bits_or64 (a := 0) (b := a) (by decide) (by omega)
   rw [Nat.zero_or] at this
   exact this
 by_cases h1 : n / 4294967296 = 0
 · have e1 : toL n = [(n : Int)] := by
     rw [e0, h1, toL_zero]; congr 1; omega
   rw [e1]
   simp only [nat_Low.l0]
   rw [if_pos (by simp), if_pos (by omega), if_pos (by simp), if_pos (by unfold wrap64; omega)]
   have r0 : rd [(n : Int)] 0 = (n : Int) := rfl
   have w1 : wrap64 (0 + 1) = 1 := by unfold wrap64; omega
   rw [r0, s0 n (by omega), w1, if_neg (by simp)]
 have h2 : n / 4294967296 / 4294967296 = 0 := by omega
 have e1 : toL n = [((n % 4294967296 : Nat) : Int), ((n / 4294967296 : Nat) : Int)] := by
   rw [e0, toL_pos h1, h2, toL_zero, Nat.mod_eq_of_lt (show n / 4294967296 < 4294967296 by omega)]
 rw [e1]
 simp only [nat_Low.l0]
 rw [if_pos (by simp), if_pos (by omega), if_pos (by simp), if_pos (by unfold wrap64; omega)]
 have r0 : rd [((n % 4294967296 : Nat) : Int), ((n / 4294967296 : Nat) : Int)] 0 = ((n % 4294967296 : Nat) : Int) := rfl
 have w1 : wrap64 (0 + 1) = 1 := by unfold wrap64; omega
 have w2 : wrap64 (1 + 1) = 2 := by unfold wrap64; omega
 have r1 : rd [((n % 4294967296 : Nat) : Int), ((n / 4294967296 : Nat) : Int)] 1 = ((n / 4294967296 : Nat) : Int) := rfl
 rw [r0, s0 _ (by omega), w1, if_pos (by simp), if_pos (by omega), if_pos (by simp), if_pos (by unfold wrap64; omega), r1, w2]
 have e2 : shl .u64 (IntKind.u64.wrap ((n / 4294967296 : Nat) : Int)) (wrap64 (32 * 1)) = ((2 ^ 32 * (n / 4294967296) : Nat) : Int) := by
   rw [u64w (by omega) (by omega)]
   have : (wrap64 (32 * 1)).toNat = 32 := by unfold wrap64; omega
   have hm : min 32 64 = 32 := by decide
   simp only [shl, this, IntKind.bits, hm]
   rw [u64w (by omega) (by omega)]
   omega
 rw [e2, bits_or64 (by omega) (by omega), Nat.or_comm, or_add (by omega), if_neg (by simp)]
 congr 2
 omega
theorem of_f {n k : Nat} (h : n < 18446744073709551616) (hk : 2 < k) : nat_Of.f k (n : Int) = some (toL n) := by
 unfold nat_Of.f
 have hl : Limbs ([(n : Int) % 4294967296, ((n : Int) / 4294967296) % 4294967296] : List Int) := limbs_mk (by omega) (by omega) (limbs_mk (by omega) (by omega) limbs_nil)
 rw [make_f hl (by simp) (by simpa using hk), Option.bind_some]
 congr 2
 simp only [valN]
 omega
theorem rcmp_l0 {x y : List Int} (hx : Limbs x) (hy : Limbs y) : ∀ (n k : Nat), n < 4611686018427387904 → n < k → zigguratref01_Cmp.l0 k x y ((n : Int) - 1) = some (cmpN (valN (x.take n)) (valN (y.take n))) := by
 intro n
 induction n with
 | zero =>
   intro k _ hk
   obtain ⟨k, rfl⟩ : ∃ m, k = m + 1 := ⟨k - 1, by omega⟩
   simp only [zigguratref01_Cmp.l0]
   rw [if_neg (by omega)]
   simp [cmpN, valN]
 | succ n ih =>
   intro k hn hk
   obtain ⟨k, rfl⟩ : ∃ m, k = m + 1 := ⟨k - 1, by omega⟩
   have e0 : (((n + 1 : Nat) : Int) - 1) = (n : Int) := by omega
   have e1 : wrap64 ((n : Int) - 1) = (n : Int) - 1 := w64N (by omega) (by omega)
   simp only [zigguratref01_Cmp.l0]
   rw [e0, if_pos (by omega), rlimb_f hx, Option.bind_some, rlimb_f hy, Option.bind_some, val_take_succ hx, val_take_succ hy]
   have hp : 0 < 4294967296 ^ n := Nat.pow_pos (by omega)
   have h1 := val_take_lt hx n
   have h2 := val_take_lt hy n
   rcases Nat.lt_trichotomy (lim x n) (lim y n) with h | h | h
   · rw [if_pos (by omega)]
     have h3 : 4294967296 ^ n * (lim x n + 1) ≤ 4294967296 ^ n * lim y n := Nat.mul_le_mul_left _ h
     rw [Nat.mul_add] at h3
     generalize 4294967296 ^ n * lim x n = p at *
     generalize 4294967296 ^ n * lim y n = q at *
     unfold cmpN
     rw [if_pos (by omega)]
   · rw [if_neg (by omega), Option.bind_some, Option.bind_some, if_neg (by omega), e1, ih k (by omega) (by omega), h]
     congr 1
     unfold cmpN
     simp only [Nat.add_lt_add_iff_right]
   · rw [if_neg (by omega), Option.bind_some, Option.bind_some, if_pos (by omega)]
     have h3 : 4294967296 ^ n * (lim y n + 1) ≤ 4294967296 ^ n * lim x n := Nat.mul_le_mul_left _ h
     rw [Nat.mul_add] at h3
     generalize 4294967296 ^ n * lim x n = p at *
     generalize 4294967296 ^ n * lim y n = q at *
     unfold cmpN
     rw [if_neg (by omega), if_pos (by omega)]
theorem rcmp_f {a b k m : Nat} (ha : (toL a).length ≤ m) (hb : (toL b).length ≤ m) (hm : m < 4611686018427387904) (hk : m < k) : zigguratref01_Cmp.f k (toL a) (toL b) = some (cmpN a b) := by
 unfold zigguratref01_Cmp.f
 have e : mx ((toL a).length : Int) ((toL b).length : Int) = ((max (toL a).length (toL b).length : Nat) : Int) := by unfold mx; split <;> omega
 rw [e, w64N (by omega) (by omega), rcmp_l0 (limbs_toL a) (limbs_toL b) _ k (by omega) (by omega), List.take_of_length_le (by omega), List.take_of_length_le (by omega), val_toL, val_toL]
theorem rsub_step {x y c : Nat} (hx : x < 4294967296) (hy : y < 4294967296) (hc : c ≤ 1) : ∃ d c' : Nat, d < 4294967296 ∧ c' ≤ 1 ∧ d + y + c = x + 4294967296 * c' ∧
   (Int.tmod (IntKind.u64.wrap ((IntKind.u64.wrap ((IntKind.u64.wrap (4294967296 + (x : Int))) - (y : Int))) - (c : Int))) 4294967296) % 4294967296 = (d : Int) ∧
   IntKind.u64.wrap (1 - (IntKind.u64.wrap (Int.tdiv (IntKind.u64.wrap ((IntKind.u64.wrap ((IntKind.u64.wrap (4294967296 + (x : Int))) - (y : Int))) - (c : Int))) 4294967296))) = (c' : Int) := by
 rw [u64w (z := 4294967296 + (x : Int)) (by omega) (by omega), u64w (z := 4294967296 + (x : Int) - (y : Int)) (by omega) (by omega), u64w (z := 4294967296 + (x : Int) - (y : Int) - (c : Int)) (by omega) (by omega),
   Int.tmod_eq_emod_of_nonneg (by omega), Int.tdiv_eq_ediv_of_nonneg (by omega), u64w (z := (4294967296 + (x : Int) - (y : Int) - (c : Int)) / 4294967296) (by omega) (by omega), u64w (by omega) (by omega)]
 exact ⟨(4294967296 + x - y - c) % 4294967296, 1 - (4294967296 + x - y - c) / 4294967296, by omega, by omega, by omega, by omega, by omega⟩
theorem sub_val (p v1 v2 v3 d y x c c' : Nat) (h : v1 + v2 = v3 + p * c) (e : d + y + c = x + 4294967296 * c') : v1 + p * d + (v2 + p * y) = v3 + p * x + p * 4294967296 * c' := by
 have e2 : p * (d + y + c) = p * (x + 4294967296 * c') := by rw [e]
 rw [Nat.mul_add, Nat.mul_add, Nat.mul_add, ← Nat.mul_assoc] at e2
 omega
theorem rsub_l0 {x y : List Int} (hx : Limbs x) (hy : Limbs y) (hyx : y.length ≤ x.length) (hlen : x.length < 1099511627776) (hle : valN y ≤ valN x) : ∀ (m i k c : Nat) (z : List Int), Limbs z → i + m = x.length → z.length = i → x.length + m + 1 < k → c ≤ 1 →
   valN z + valN (y.take i) = valN (x.take i) + 4294967296 ^ i * c → zigguratref01_Sub.l0 k x y z (c : Int) (i : Int) = some (toL (valN x - valN y), true) := by
 intro m
 induction m with
 | zero =>
   intro i k c z hz hi hzl hk hc hv
   obtain ⟨k, rfl⟩ : ∃ m, k = m + 1 := ⟨k - 1, by omega⟩
   simp only [zigguratref01_Sub.l0]
   rw [if_neg (by omega), rmake_f hz (by omega) (by omega), Option.bind_some]
   rw [List.take_of_length_le (by omega), List.take_of_length_le (by omega)] at hv
   have h1 := val_lt hz
   rw [hzl] at h1
   have h2 := val_lt hx
   have e : i = x.length := by omega
   rw [e] at h1 hv
   have hc0 : c = 0 := by
     rcases (show c = 0 ∨ c = 1 by omega) with h | h
     · exact h
     · subst h; rw [Nat.mul_one] at hv; omega
   subst hc0
   congr 3
   omega
 | succ m ih =>
   intro i k c z hz hi hzl hk hc hv
   obtain ⟨k, rfl⟩ : ∃ m, k = m + 1 := ⟨k - 1, by omega⟩
   obtain ⟨d, c', hd, hc', he, e1, e2⟩ := rsub_step (lim_lt hx i) (lim_lt hy i) hc
   simp only [zigguratref01_Sub.l0]
   rw [if_pos (by omega), rlimb_f hx, Option.bind_some, rlimb_f hy, Option.bind_some, if_pos (by omega), e1, e2, show wrap64 ((i : Int) + 1) = ((i + 1 : Nat) : Int) by unfold wrap64; omega]
   refine ih (i + 1) k c' _ (limbs_snoc hz (by omega) (by omega)) (by omega) (by rw [List.length_append, List.length_singleton]; omega) (by omega) hc' ?_
   rw [val_snoc, val_take_succ hx, val_take_succ hy, hzl, Int.toNat_natCast, Nat.pow_succ]
   exact sub_val _ _ _ _ _ _ _ _ _ hv he
theorem rsub_f {a b k m : Nat} (ha : (toL a).length ≤ m) (hb : (toL b).length ≤ m) (hm : m < 1099511627776) (hk : 2 * m + 1 < k) : zigguratref01_Sub.f k (toL a) (toL b) = some (if a < b then ([], false) else (toL (a - b), true)) := by
 unfold zigguratref01_Sub.f
 rw [rcmp_f ha hb (by omega) (by omega), Option.bind_some]
 by_cases h : a < b
 · rw [if_pos h, if_pos (by unfold cmpN; rw [if_pos h]; omega)]
 rw [if_neg h, if_neg (by unfold cmpN; rw [if_neg h]; split <;> omega)]
 have hlen : (toL b).length ≤ (toL a).length := len_mono (by omega) (Nat.le_refl _)
 have := rsub_l0 (limbs_toL a) (limbs_toL b) hlen (by omega) (by rw [val_toL, val_toL]; omega) (toL a).length 0 k 0 [] limbs_nil (by omega) rfl (by omega) (by omega) (by simp [valN])
 rw [val_toL, val_toL] at this
 exact this
end Go.Proofs.YtjbcnppbcomaiaaGreatDoor.Q
namespace Go.Proofs.YtjbcnppbcomaiaaGreatDoor.Q
open Go.RowKit Go.Proofs.YtjbcnppbcomaiaaGreatDoorW.PrintWords Go.Proofs.YtjbcnppbcomaiaaGreatDoorW.PrintLast Go.Proofs.YtjbcnppbcomaiaaGreatDoorW.PrintMore
set_option linter.unusedVariables false
set_option linter.unusedSimpArgs false
theorem k56_heap : Kd.Heap k56 := Kd.heap_iso _ (Kd.heap_pair Kd.heap_bool (Kd.heap_slice 23 (Kd.heap_int .u32)))
theorem info49 : (Tryz.prog.info? 49).map (fun i => (i.zero, i.size, i.bytes)) = some (some (.agg #[(.bool false), (.slice none 0 0)]), 2, 32) := by kernel_rfl
def mkZ (z : Int) : S56 := ⟨decide (z < 0), toL z.natAbs⟩
def zlen (z : Int) : Nat := (toL z.natAbs).length
def sgnZ (z : Int) : Int := if z < 0 then -1 else if z = 0 then 0 else 1
theorem sign_f {z : Int} (hz : zlen z ≤ 1000) (K : Nat) (hK : 2000 ≤ K) : zigguratref06_Sign.f K (mkZ z).f0 (mkZ z).f1 = some (sgnZ z) := by
 unfold zigguratref06_Sign.f zigguratref06_Cmp.f mkZ sgnZ
 have h0 : toL 0 = [] := toL_zero
 have hc := rcmp_f (a := z.natAbs) (b := 0) (k := K) (m := 1000) hz (by rw [h0]; simp) (by omega) (by omega)
 rw [h0] at hc
 by_cases h : z < 0
 · simp [h]
 rw [if_neg h]
 simp only [decide_eq_false h]
 simp [hc, cmpN]
theorem sgnZ_zero {z : Int} : sgnZ z = 0 ↔ z = 0 := by
 unfold sgnZ
 split
 · omega
 · split <;> omega
theorem take_zero {zs : List Int} {n : Nat} (hn : n < zs.length) (hz : zs[n] = 0) (h : trimL zs = trimL (zs.take (n + 1))) : trimL zs = trimL (zs.take n) := by
 rw [h, List.take_succ_eq_append_getElem hn, hz, trimL_zero]
theorem at_Z {w : World} {A : Option Addr} {zs : List Int} (h : Kd.C k56 w A zs.length (zs.map mkZ)) (i : Nat) (hi : i < zs.length) : ∃ ad A1 c1, A = some ad ∧ w.cell? (ad.add (i * 2)) = some (.bool (mkZ zs[i]).f0) ∧ w.cell? ⟨(ad.add (i * 2)).block, (ad.add (i * 2)).off + 1, none⟩ = some (.slice A1 (mkZ zs[i]).f1.length c1) ∧ (mkZ zs[i]).f1.length ≤ c1 ∧ Kd.C (Kd.int .u32) w A1 (mkZ zs[i]).f1.length (mkZ zs[i]).f1 := by
 obtain ⟨ad, A1, c1, e, h0, h1, hl, hC⟩ := at_T56 h (i : Int) (by omega) (by omega)
 have e0 : rd_T56 (zs.map mkZ) (i : Int) = mkZ zs[i] := by simp [rd_T56, List.getD_eq_getElem?_getD, List.getElem?_eq_getElem hi]
 rw [e0] at h0 h1 hl hC
 exact ⟨ad, A1, c1, e, h0, h1, hl, hC⟩
theorem trimL_snoc {l : List Int} {a : Int} (ha : a ≠ 0) : trimL (l ++ [a]) = l ++ [a] := by
 induction l with
 | nil => simp [trimL, ha]
 | cons b l ih => simp only [List.cons_append, trimL, ih]; rw [if_neg (by simp)]
theorem F_takeZ {W : World} {ok : Nat → Prop} {A : Option Addr} {zs : List Int} {n : Nat} (h : Kd.F k56 W ok A zs.length (zs.map mkZ)) (hn : n ≤ zs.length) : Kd.F k56 W ok A n ((zs.take n).map mkZ) := by
 have h2 := Kd.F_take (xs := zs.map mkZ) (m := n) (by rw [List.length_map]; exact h) (by simp; exact hn)
 simpa [List.map_take, Nat.min_eq_left hn] using h2
theorem aK_ {v : Value} {n : Nat} (h : ∃ b, v.ownBlock = some b ∧ n ≤ b) : ∀ k, k < n → True ∧ some k ≠ v.ownBlock := by
 obtain ⟨b, h1, h2⟩ := h
 intro k hk
 refine ⟨trivial, fun e => ?_⟩
 rw [h1] at e
 cases e
 omega
theorem r12make (K : Nat) (hK : 2000 ≤ K) (zs : List Int) (hb : ∀ z ∈ zs, zlen z ≤ 1000) (hl : zs.length ≤ 1000) (A : Option Addr) (c : Nat) (w : World) (hC : Kd.C k56 w A zs.length (zs.map mkZ)) (hc : zs.length ≤ c) :
   Calls Tryz.prog 25 #[.slice A zs.length c] w fun e w' => ∃ A' c', e = .returned (.slice A' (trimL zs).length c') ∧ RV w' (.slice A' (trimL zs).length c') (.i ((trimL zs).map mkZ)) ∧ Below w.heap.size w w' := by
 have HF := am (Kd.C_F k56_heap hC)
 have HCC := am hC
 have hu49 := Tryz.underlying49
 have HB0 := am (Below.refl w.heap.size w)
 obtain ⟨i0, hi0, _, _, _⟩ := info_parts info49
 clear hC
 go_enter Tryz.func25, Tryz.ntmps25
 go_wp2
 go_loopw [3] (fun v w' => ∃ n : Nat, n ≤ zs.length ∧ v = .int .i64 n ∧ trimL zs = trimL (zs.take n) ∧ Aside0 (Below w.heap.size w w')) (fun v _ => (intOf v).toNat)
 case atStart => exact ⟨zs.length, Nat.le_refl _, rfl, by rw [List.take_length], HB0⟩
 obtain ⟨n, hn, rfl, ht, HB⟩ := hrel
 have HT := am ht
 clear ht
 rcases n with _ | m
 · have hcut := cut_to (P := Tryz.prog) 22 49 .i64 Tryz.underlying22 hi0 A zs.length c 0 (by omega) (by omega) hc
   rw [show (0 : Int).toNat = 0 from rfl] at hcut
   have HE : Aside0 (([] : List S56) ++ (zs.take 0).map mkZ = (trimL zs).map mkZ) := ⟨by rw [HT.out]; rfl⟩
   go_wp2_with (first | ((with_reducible refine gate_dst (N := 19) rfl ?_); refine Kd.N_lit k56 (w0 := w) w.heap.size 49 ?hg (N' := 19) ?hd (xs := ([] : List S56)) (inner := []) (ok := fun _ => True) (okp := fun _ => True) ?hr ?hp (fun _ hk => hk) trivial HB.out (by have := HB.out.size; omega) (by simp) ?_; (case hd => rfl); (case hg => rfl); (case hr => first | (go_simp; done) | (go_simp; rfl)); (case hp => exact Reps.none _ _); intro v19 w19 ho19 hb19 hg19 hn19; have HO := am ho19; have HB9 := am hb19; have HN : Aside0 (∃ b, v19.ownBlock = some b ∧ w.heap.size ≤ b) := ⟨let ⟨b, h1, h2⟩ := hn19; ⟨b, h1, Nat.le_trans HB.out.size h2⟩⟩; clear ho19 hb19 hg19 hn19) | ((with_reducible refine gate_builtin (b := .append) (xs := #[.tmp 19, .tmp 22]) rfl ?_); at_builtin; refine Kd.N_append_rows k56 (w0 := w) w.heap.size rfl (.tmp 19) (.tmp 22) 22 49 (.agg #[(.bool false), (.slice none 0 0)]) 32 rfl Tryz.underlying22 info49 rfl (by decide) (by omega) v19 ([] : List S56) ((zs.take (0)).map mkZ) A (0) c (fun _ => True) (fun k => k < w.heap.size) rfl rfl HO.out (F_takeZ (Kd.F_step HF.out (fun k hk _ => HB9.out.block k hk)) (by omega)) (aK_ HN.out) (fun _ _ => trivial) HB9.out HB9.out.size (by simp <;> omega) ?_; intro v23 w23 ho23 hb23 hg23 hat23; rw [HE.out] at ho23; obtain ⟨A23, c23, rfl, hl23, hC23⟩ := Kd.N_reads ho23; have HO2 := am hC23; have HL2 := am hl23; have HB3 := am hb23; clear ho23 hb23 hg23 hat23 hC23 hl23))
   go_ret
   exact ⟨A23, c23, by first | rfl | (rw [List.length_map]; rfl), ⟨A23, c23, by rw [List.length_map], HL2.out, HO2.out⟩, HB3.out⟩
 · have hm : m < zs.length := by omega
   obtain ⟨ad, A1, c1, rfl, x0, x1, hl1, hC1⟩ := at_Z (Kd.C_below HCC.out HB.out) m hm
   have hw : wrap64 (((m + 1 : Nat) : Int) - 1) = (m : Int) := by unfold wrap64; omega
   have hpos : decide (0 < ((m + 1 : Nat) : Int)) = true := decide_eq_true (by omega)
   have hlt : decide ((m : Int) < (zs.length : Int)) = true := decide_eq_true (by omega)
   have HX := am hC1
   have HL := am hl1
   clear hC1 hl1
   by_cases hz : zs[m] = 0
   · have hz0 : (sgnZ zs[m] == 0) = true := beq_iff_eq.mpr (sgnZ_zero.2 hz)
     have HZ := am hz
     clear hz
     go_wp2_with (first | (go_at_call 51; (with_reducible refine (zigguratref06_Sign.calls K (mkZ zs[m]).f0 _ _ (mkZ zs[m]).f1 (sgnZ zs[m]) _ HX.out HL.out (sign_f (hb _ (List.getElem_mem hm)) K hK)).mono ?_); rintro e w8 ⟨rfl, hb8⟩; have HB8 := am (below_step HB.out hb8); clear hb8))
     exact ⟨⟨m, by omega, rfl, take_zero hm HZ.out HT.out, HB8⟩, by show (m : Int).toNat < ((m + 1 : Nat) : Int).toNat; omega⟩
   have hz0 : (sgnZ zs[m] == 0) = false := beq_eq_false_iff_ne.mpr (fun h => hz (sgnZ_zero.1 h))
   have HZ : Aside0 (zs[m] ≠ 0) := ⟨hz⟩
   clear hz
   have hcut := cut_to (P := Tryz.prog) 22 49 .i64 Tryz.underlying22 hi0 (some ad) zs.length c ((m : Int) + 1) (by omega) (by omega) hc
   rw [show ((m : Int) + 1).toNat = m + 1 by omega] at hcut
   have HE : Aside0 (([] : List S56) ++ (zs.take (m + 1)).map mkZ = (trimL zs).map mkZ) := ⟨by rw [HT.out, List.take_succ_eq_append_getElem hm, trimL_snoc HZ.out]; rfl⟩
   go_wp2_with (first | (go_at_call 51; (with_reducible refine (zigguratref06_Sign.calls K (mkZ zs[m]).f0 _ _ (mkZ zs[m]).f1 (sgnZ zs[m]) _ HX.out HL.out (sign_f (hb _ (List.getElem_mem hm)) K hK)).mono ?_); rintro e w8 ⟨rfl, hb8⟩; have HB8 := am (below_step HB.out hb8); clear hb8) | ((with_reducible refine gate_dst (N := 19) rfl ?_); refine Kd.N_lit k56 (w0 := w) w.heap.size 49 ?hg (N' := 19) ?hd (xs := ([] : List S56)) (inner := []) (ok := fun _ => True) (okp := fun _ => True) ?hr ?hp (fun _ hk => hk) trivial HB8.out (by have := HB8.out.size; omega) (by simp) ?_; (case hd => rfl); (case hg => rfl); (case hr => first | (go_simp; done) | (go_simp; rfl)); (case hp => exact Reps.none _ _); intro v19 w19 ho19 hb19 hg19 hn19; have HO := am ho19; have HB9 := am hb19; have HN : Aside0 (∃ b, v19.ownBlock = some b ∧ w.heap.size ≤ b) := ⟨let ⟨b, h1, h2⟩ := hn19; ⟨b, h1, Nat.le_trans HB8.out.size h2⟩⟩; clear ho19 hb19 hg19 hn19) | ((with_reducible refine gate_builtin (b := .append) (xs := #[.tmp 19, .tmp 22]) rfl ?_); at_builtin; refine Kd.N_append_rows k56 (w0 := w) w.heap.size rfl (.tmp 19) (.tmp 22) 22 49 (.agg #[(.bool false), (.slice none 0 0)]) 32 rfl Tryz.underlying22 info49 rfl (by decide) (by omega) v19 ([] : List S56) ((zs.take (m + 1)).map mkZ) (some ad) (m + 1) c (fun _ => True) (fun k => k < w.heap.size) rfl rfl HO.out (F_takeZ (Kd.F_step HF.out (fun k hk _ => HB9.out.block k hk)) (by omega)) (aK_ HN.out) (fun _ _ => trivial) HB9.out HB9.out.size (by simp <;> omega) ?_; intro v23 w23 ho23 hb23 hg23 hat23; rw [HE.out] at ho23; obtain ⟨A23, c23, rfl, hl23, hC23⟩ := Kd.N_reads ho23; have HO2 := am hC23; have HL2 := am hl23; have HB3 := am hb23; clear ho23 hb23 hg23 hat23 hC23 hl23))
   go_ret
   exact ⟨A23, c23, by first | rfl | (rw [List.length_map]; rfl), ⟨A23, c23, by rw [List.length_map], HL2.out, HO2.out⟩, HB3.out⟩
end Go.Proofs.YtjbcnppbcomaiaaGreatDoor.Q
namespace Go.Proofs.YtjbcnppbcomaiaaGreatDoor.Q
open Go.RowKit Go.Proofs.YtjbcnppbcomaiaaGreatDoorW.PrintWords Go.Proofs.YtjbcnppbcomaiaaGreatDoorW.PrintLast Go.Proofs.YtjbcnppbcomaiaaGreatDoorW.PrintMore
attribute [local go_sem] max2_int min2_int max_two min_two
set_option linter.unusedVariables false
set_option linter.unusedSimpArgs false
theorem r12makeN (K : Nat) (hK : 2000 ≤ K) (zs : List Int) (hb : ∀ z ∈ zs, zlen z ≤ 1000) (n : Nat) (hn : zs.length = n) (hl : n ≤ 1000) (A : Option Addr) (c : Nat) (w : World) (hC : Kd.C k56 w A n (zs.map mkZ)) (hc : n ≤ c) :
   Calls Tryz.prog 25 #[.slice A n c] w fun e w' => ∃ A' c', e = .returned (.slice A' (trimL zs).length c') ∧ RV w' (.slice A' (trimL zs).length c') (.i ((trimL zs).map mkZ)) ∧ Below w.heap.size w w' := by
 subst hn
 exact r12make K hK zs hb hl A c w hC hc
theorem FK_new {W : World} {b b2 : Nat} {ok2 : Nat → Prop} {A : Option Addr} {n c : Nat} {l : List Int} {u : Value} {xs : List S56} (hR : (Kd.int .u32).R 23 W b (fun _ => True) (.slice A n c) l) (hN : Kd.N k56 49 W b2 ok2 u xs) (t : Bool) : Kd.FK k56 W (fun k => some k ≠ u.ownBlock) ⟨t, l⟩ [.bool t, .slice A n c] := by
 have h1 := Kd.R_reads' hR
 obtain ⟨e, h2, _⟩ := h1
 subst e
 exact k56_mkF W _ ⟨t, l⟩ h2 (Kd.R_F (Kd.R_mono (ok' := fun k => some k ≠ u.ownBlock) (Kd.R_apart' hR (Kd.N_typed hN) (by decide)) (fun k hk => hk.2)))
theorem make06_f (b : Bool) (n : Nat) (K : Nat) (hK : (toL n).length < K) (hl : (toL n).length < 35184372088832) : zigguratref06_Make.f K b (toL n) = some ((mkZ (if b = true then -(n : Int) else n)).f0, (mkZ (if b = true then -(n : Int) else n)).f1) := by
 unfold zigguratref06_Make.f
 rw [rmake_f (limbs_toL n) hl hK, val_toL, Option.bind_some]
 cases b
 · simp [mkZ]
 · simp only [if_true, mkZ, Option.some.injEq, Prod.mk.injEq]
   constructor
   · by_cases h : n = 0
     · subst h
       simp [toL_zero]
     · have : toL n ≠ [] := fun e => h (toL_nil.1 e)
       have h2 : 0 < (toL n).length := List.length_pos_iff.2 this
       simp
       omega
   · congr 1
     omega
def madeZ (most : Nat) (x : S56) : Int := if x.f0 = true then -(valN (x.f1.take most) : Int) else valN (x.f1.take most)
theorem made06_f (x : S56) (most : Nat) (hx : Limbs x.f1) (hm : most ≤ 1000) (K : Nat) (hK : 2000 ≤ K) : zigguratref06_Made.f K x.f0 x.f1 (most : Int) = some ((mkZ (madeZ most x)).f0, (mkZ (madeZ most x)).f1) := by
 unfold zigguratref06_Made.f
 have hl := made_len hx most
 rw [made_f hx (by omega) (by omega), Option.bind_some, make06_f _ _ _ (by omega) (by omega), Option.bind_some]
 rfl
theorem madeZ_len (x : S56) (most : Nat) (hx : Limbs x.f1) : zlen (madeZ most x) ≤ most := by
 unfold zlen madeZ
 split
 · rw [Int.natAbs_neg, Int.natAbs_natCast]; exact made_len hx most
 · rw [Int.natAbs_natCast]; exact made_len hx most
theorem at_R {w : World} {A : Option Addr} {n : Nat} {xs : List S56} (h : Kd.C k56 w A n xs) (i : Nat) (hi : i < n) (hl : n = xs.length) : ∃ ad A1 c1, A = some ad ∧ w.cell? (ad.add (i * 2)) = some (.bool (xs[i]'(hl ▸ hi)).f0) ∧ w.cell? ⟨(ad.add (i * 2)).block, (ad.add (i * 2)).off + 1, none⟩ = some (.slice A1 (xs[i]'(hl ▸ hi)).f1.length c1) ∧ (xs[i]'(hl ▸ hi)).f1.length ≤ c1 ∧ Kd.C (Kd.int .u32) w A1 (xs[i]'(hl ▸ hi)).f1.length (xs[i]'(hl ▸ hi)).f1 := by
 subst hl
 obtain ⟨ad, A1, c1, e, h0, h1, hl, hC⟩ := at_T56 h (i : Int) (by omega) (by omega)
 have e0 : rd_T56 xs (i : Int) = xs[i] := by simp [rd_T56, List.getD_eq_getElem?_getD, List.getElem?_eq_getElem hi]
 rw [e0] at h0 h1 hl hC
 exact ⟨ad, A1, c1, e, h0, h1, hl, hC⟩
theorem r12made (K : Nat) (hK : 2000 ≤ K) (xs : List S56) (hx : ∀ x ∈ xs, Limbs x.f1) (deg most : Nat) (hm : most ≤ 1000) (hd : deg < 1000) (A : Option Addr) (c : Nat) (w : World) (hC : Kd.C k56 w A xs.length xs) (hc : xs.length ≤ c) :
   Calls Tryz.prog 6 #[.slice A xs.length c, .int .i64 deg, .int .i64 most] w fun e w' => ∃ A' c', e = .returned (.slice A' (trimL ((xs.take (deg + 1)).map (madeZ most))).length c') ∧ RV w' (.slice A' (trimL ((xs.take (deg + 1)).map (madeZ most))).length c') (.i ((trimL ((xs.take (deg + 1)).map (madeZ most))).map mkZ)) ∧ Below w.heap.size w w' := by
 have HCC := am hC
 have hu49 := Tryz.underlying49
 have HB0 := am (Below.refl w.heap.size w)
 clear hC
 go_enter Tryz.func6, Tryz.ntmps6
 go_wp2_with (first | ((with_reducible refine gate_dst (N := 9) rfl ?_); refine Kd.N_lit k56 (w0 := w) w.heap.size 49 rF (N' := 9) rF (xs := ([] : List S56)) (inner := []) (ok := fun _ => True) (okp := fun _ => True) gF ?hp (fun _ hk => hk) trivial HB0.out HB0.out.size (by simp) ?_; (case hp => exact Reps.none _ _); intro v9 w9 ho hb hg hn; have HO := am ho; have HB := am hb; clear ho hb hg hn))
 go_loopw [7, 8] (fun u v w' => ∃ i : Nat, i ≤ deg + 1 ∧ i ≤ xs.length ∧ v = .int .i64 i ∧ Aside0 (Kd.N k56 49 w' w.heap.size (fun _ => True) u (((xs.take i).map (madeZ most)).map mkZ)) ∧ Aside0 (Below w.heap.size w w')) (fun _ v _ => (deg + 1) - (intOf v).toNat)
 case atStart => exact ⟨0, by omega, by omega, rfl, HO, HB⟩
 obtain ⟨i, hi, hil, rfl, HO, HB⟩ := hrel
 have hw : wrap64 ((i : Int) + 1) = ((i + 1 : Nat) : Int) := by unfold wrap64; omega
 by_cases h1 : i < xs.length
 case neg =>
   have d1 : decide ((i : Int) < (xs.length : Int)) = false := decide_eq_false (by omega)
   obtain ⟨A7, c7, e7, hl7, hC7⟩ := Kd.N_reads HO.out
   have hlen : (((xs.take i).map (madeZ most)).map mkZ).length = i := by simp; omega
   rw [hlen] at e7 hl7 hC7
   subst e7
   have HE : Aside0 (xs.take i = xs.take (deg + 1)) := ⟨by rw [List.take_of_length_le (by omega), List.take_of_length_le (by omega)]⟩
   have HM := am hC7
   have HMC := am hl7
   have HZL : Aside0 (∀ z ∈ (xs.take i).map (madeZ most), zlen z ≤ 1000) := ⟨fun z hz => by
     obtain ⟨x, h3, rfl⟩ := List.mem_map.1 hz
     have := madeZ_len x most (hx x (List.mem_of_mem_take h3))
     omega⟩
   have HZN : Aside0 (((xs.take i).map (madeZ most)).length = i) := ⟨by simp; omega⟩
   have HIN : Aside0 (i ≤ 1000) := ⟨by omega⟩
   clear hl7 hC7
   go_wp2_with (first | (go_at_call 25; (with_reducible refine (r12makeN K hK ((xs.take i).map (madeZ most)) HZL.out _ HZN.out HIN.out _ _ _ HM.out HMC.out).mono ?_); rintro e w31 ⟨A8, c8, rfl, hv8, hb8⟩; have HV := am hv8; have HB8 := am (below_step HB.out hb8); clear hv8 hb8))
   go_ret
   rw [← HE.out]
   exact ⟨A8, c8, by first | rfl | (rw [List.map_take]; rfl), HV.out, HB8.out⟩
 have d1 : decide ((i : Int) < (xs.length : Int)) = true := decide_eq_true (by omega)
 by_cases h2 : i ≤ deg
 · have d2 : decide ((i : Int) ≤ (deg : Int)) = true := decide_eq_true (by omega)
   obtain ⟨ad, A1, c1, rfl, x0, x1, hl1, hC1⟩ := at_R (Kd.C_below HCC.out HB.out) i h1 rfl
   have HX := am hC1
   have HL := am hl1
   have HLM := am (hx _ (List.getElem_mem h1))
   clear hC1 hl1
   go_wp2_with (first | (go_at_call 24; (with_reducible refine (zigguratref06_Made.calls K xs[i].f0 A1 c1 xs[i].f1 most _ _ _ HX.out HL.out (made06_f _ _ HLM.out hm K hK)).mono ?_); rintro e w27 ⟨v27, rfl, hr27, hb27⟩; obtain ⟨A9, c9, rfl⟩ := Kd.R_slice hr27; replace HO := am (Kd.N_below HO.out hb27); have HR := am hr27; replace HB := am (below_step HB.out hb27); clear hr27 hb27) | ((with_reducible refine gate_builtin (b := .append) (xs := #[.tmp 21, .tmp 28]) rfl ?_); at_builtin; refine Kd.N_append k56 (w0 := w) w.heap.size rfl (.tmp 21) (.tmp 28) 22 49 (.agg #[(.bool false), (.slice none 0 0)]) 32 rfl Tryz.underlying22 info49 rfl (by decide) (by omega) _ _ (mkZ (madeZ most xs[i])) _ (fun _ => True) _ rfl rfl (FK_new HR.out HO.out _) (fun k hk => ⟨trivial, hk⟩) (fun _ _ => trivial) HO.out HB.out HB.out.size ?_ ?_; (case refine_1 => simp; omega); intro v29 w29 ho hb hg hat; have HO2 := am ho; have HB2 := am hb; clear ho hb hg hat))
   exact ⟨⟨i + 1, by omega, by omega, congrArg (Value.int .i64) (by omega), ⟨by rw [List.take_succ_eq_append_getElem h1, List.map_append, List.map_append]; exact HO2.out⟩, HB2⟩, by show (deg + 1) - ((i : Int) + 1).toNat < (deg + 1) - (i : Int).toNat; omega⟩
 have d2 : decide ((i : Int) ≤ (deg : Int)) = false := decide_eq_false (by omega)
 obtain ⟨A7, c7, e7, hl7, hC7⟩ := Kd.N_reads HO.out
 have hlen : (((xs.take i).map (madeZ most)).map mkZ).length = i := by simp; omega
 rw [hlen] at e7 hl7 hC7
 subst e7
 have HE : Aside0 (xs.take i = xs.take (deg + 1)) := ⟨by rw [show i = deg + 1 by omega]⟩
 have HM := am hC7
 have HMC := am hl7
 have HZL : Aside0 (∀ z ∈ (xs.take i).map (madeZ most), zlen z ≤ 1000) := ⟨fun z hz => by
   obtain ⟨x, h3, rfl⟩ := List.mem_map.1 hz
   have := madeZ_len x most (hx x (List.mem_of_mem_take h3))
   omega⟩
 have HZN : Aside0 (((xs.take i).map (madeZ most)).length = i) := ⟨by simp; omega⟩
 have HIN : Aside0 (i ≤ 1000) := ⟨by omega⟩
 clear hl7 hC7
 go_wp2_with (first | (go_at_call 25; (with_reducible refine (r12makeN K hK ((xs.take i).map (madeZ most)) HZL.out _ HZN.out HIN.out _ _ _ HM.out HMC.out).mono ?_); rintro e w31 ⟨A8, c8, rfl, hv8, hb8⟩; have HV := am hv8; have HB8 := am (below_step HB.out hb8); clear hv8 hb8))
 go_ret
 rw [← HE.out]
 exact ⟨A8, c8, by first | rfl | (rw [List.map_take]; rfl), HV.out, HB8.out⟩
def zat (zs : List Int) (i : Int) : Int := if 0 ≤ i then zs.getD i.toNat 0 else 0
theorem at12_f (zs : List Int) (i : Int) : zigguratref12_At.f (zs.map mkZ) i = some ((mkZ (zat zs i)).f0, (mkZ (zat zs i)).f1) := by
 have h0 : mkZ 0 = ⟨false, []⟩ := by simp [mkZ, toL_zero]
 unfold zigguratref12_At.f zat
 by_cases h : i < 0
 · rw [if_pos h, if_neg (by omega), h0]
 rw [if_neg h, List.length_map]
 by_cases h2 : i ≥ (zs.length : Int)
 · rw [if_pos h2, if_pos (by omega : 0 ≤ i), List.getD_eq_getElem?_getD, List.getElem?_eq_none (by omega), Option.getD_none, h0]
 rw [if_neg h2, if_pos (by omega), if_pos (by omega), if_pos (by omega : 0 ≤ i)]
 have hi : i.toNat < zs.length := by omega
 simp [rd_T56, List.getD_eq_getElem?_getD, List.getElem?_eq_getElem hi]
theorem r12at (zs : List Int) (i : Int) (A : Option Addr) (c : Nat) (w : World) (hC : Kd.C k56 w A zs.length (zs.map mkZ)) (hc : zs.length ≤ c) :
   Calls Tryz.prog 32 #[.slice A zs.length c, .int .i64 i] w fun e w' => ∃ A' c', e = .returned (.agg #[.bool (mkZ (zat zs i)).f0, .slice A' (mkZ (zat zs i)).f1.length c']) ∧ (mkZ (zat zs i)).f1.length ≤ c' ∧ Kd.C (Kd.int .u32) w' A' (mkZ (zat zs i)).f1.length (mkZ (zat zs i)).f1 ∧ Below w.heap.size w w' := by
 have hV : Kd.V k56 49 w w.heap.size (fun _ => True) (.slice A (zs.map mkZ).length c) (zs.map mkZ) := Kd.V_mk (by simpa using hc) (Kd.F_mono (Kd.C_F k56_heap (by simpa using hC)) (fun _ _ => trivial))
 have h := zigguratref12_At.calls (fun _ => True) A c (zs.map mkZ) i _ _ w hV (at12_f zs i)
 rw [List.length_map] at h
 refine h.mono ?_
 rintro e w' ⟨v, rfl, hv, hb⟩
 obtain ⟨A', c', rfl⟩ := Kd.V_slice hv
 have h2 := Kd.V_reads' hv
 exact ⟨A', c', rfl, h2.2.1, h2.2.2, hb⟩
theorem zlen_le {z : Int} {m : Nat} : zlen z ≤ m ↔ z.natAbs < 4294967296 ^ m := toL_length_le
theorem zlen_add {a b : Int} {m : Nat} (ha : zlen a ≤ m) (hb : zlen b ≤ m) : zlen (a + b) ≤ m + 1 := by
 rw [zlen_le] at ha hb ⊢
 rw [Nat.pow_succ]
 omega
theorem add06_f {a b : Int} {m : Nat} (ha : zlen a ≤ m) (hb : zlen b ≤ m) (hm : m ≤ 500) (K : Nat) (hK : 2000 ≤ K) : zigguratref06_Add.f K (mkZ a).f0 (mkZ a).f1 (mkZ b).f0 (mkZ b).f1 = some ((mkZ (a + b)).f0, (mkZ (a + b)).f1) := by
 have hs := zlen_add ha hb
 unfold zlen at ha hb
 unfold zigguratref06_Add.f mkZ
 simp only
 by_cases h : decide (a < 0) = decide (b < 0)
 · rw [if_pos (beq_iff_eq.mpr h), radd_f ha hb (by omega) (by omega), Option.bind_some]
   have hl : (toL (a.natAbs + b.natAbs)).length ≤ m + 1 := by
     rw [toL_length_le] at ha hb ⊢
     rw [Nat.pow_succ]
     omega
   rw [make06_f _ _ _ (by omega) (by omega), Option.bind_some]
   have e : (if decide (a < 0) = true then -((a.natAbs + b.natAbs : Nat) : Int) else ((a.natAbs + b.natAbs : Nat) : Int)) = a + b := by
     by_cases h1 : a < 0
     · have h2 : b < 0 := by simpa [h1] using h.symm
       rw [if_pos (by simpa using h1)]
       omega
     · have h2 : ¬ b < 0 := by simpa [h1] using h.symm
       rw [if_neg (by simpa using h1)]
       omega
   rw [e]
   rfl
 rw [if_neg (by simpa using h), rsub_f ha hb (by omega) (by omega), Option.bind_some]
 by_cases hlt : a.natAbs < b.natAbs
 case neg =>
   rw [if_neg hlt, if_pos rfl]
   have hl : (toL (a.natAbs - b.natAbs)).length ≤ m := len_mono (Nat.sub_le _ _) ha
   rw [make06_f _ _ _ (by omega) (by omega), Option.bind_some]
   have e : (if decide (a < 0) = true then -((a.natAbs - b.natAbs : Nat) : Int) else ((a.natAbs - b.natAbs : Nat) : Int)) = a + b := by
     by_cases h1 : a < 0
     · have h2 : ¬ b < 0 := fun h2 => h (by simp [h1, h2])
       rw [if_pos (by simpa using h1)]
       omega
     have h2 : b < 0 := by
       by_cases h2 : b < 0
       · exact h2
       · exact absurd (by simp [h1, h2]) h
     rw [if_neg (by simpa using h1)]
     omega
   rw [e]
   rfl
 rw [if_pos hlt, if_neg (by simp), rsub_f hb ha (by omega) (by omega), if_neg (by omega), Option.bind_some]
 have hl : (toL (b.natAbs - a.natAbs)).length ≤ m := len_mono (Nat.sub_le _ _) hb
 rw [make06_f _ _ _ (by omega) (by omega), Option.bind_some]
 have e : (if decide (b < 0) = true then -((b.natAbs - a.natAbs : Nat) : Int) else ((b.natAbs - a.natAbs : Nat) : Int)) = a + b := by
   by_cases h2 : b < 0
   · have h1 : ¬ a < 0 := fun h1 => h (by simp [h1, h2])
     rw [if_pos (by simpa using h2)]
     omega
   have h1 : a < 0 := by
     by_cases h1 : a < 0
     · exact h1
     · exact absurd (by simp [h1, h2]) h
   rw [if_neg (by simpa using h2)]
   omega
 rw [e]
 rfl
def addR (zs ys : List Int) (n : Nat) : List Int := (List.range n).map fun (j : Nat) => zat zs j + zat ys j
theorem addR_succ (zs ys : List Int) (n : Nat) : addR zs ys (n + 1) = addR zs ys n ++ [zat zs n + zat ys n] := by simp [addR, List.range_succ]
theorem addR_len (zs ys : List Int) (n : Nat) : (addR zs ys n).length = n := by simp [addR]
theorem zat_mem {zs : List Int} {P : Int → Prop} (h0 : P 0) (h : ∀ z ∈ zs, P z) (i : Int) : P (zat zs i) := by
 unfold zat
 split
 · rw [List.getD_eq_getElem?_getD]
   cases hq : zs[i.toNat]? with
   | none => exact h0
   | some z => exact h z (List.mem_of_getElem? hq)
 · exact h0
theorem zlen_zero : zlen 0 = 0 := by simp [zlen, toL_zero]
theorem r12add (K : Nat) (hK : 2000 ≤ K) (zs ys : List Int) (m : Nat) (hm : m ≤ 400) (hz : ∀ z ∈ zs, zlen z ≤ m) (hy : ∀ z ∈ ys, zlen z ≤ m) (hlz : zs.length ≤ 900) (hly : ys.length ≤ 900) (A B : Option Addr) (c d : Nat) (w : World)
   (hC : Kd.C k56 w A zs.length (zs.map mkZ)) (hc : zs.length ≤ c) (hD : Kd.C k56 w B ys.length (ys.map mkZ)) (hd : ys.length ≤ d) :
   Calls Tryz.prog 10 #[.slice A zs.length c, .slice B ys.length d] w fun e w' => ∃ A' c', e = .returned (.slice A' (trimL (addR zs ys (max zs.length ys.length))).length c') ∧ RV w' (.slice A' (trimL (addR zs ys (max zs.length ys.length))).length c') (.i ((trimL (addR zs ys (max zs.length ys.length))).map mkZ)) ∧ Below w.heap.size w w' := by
 have HCC := am hC
 have HDD := am hD
 have hu49 := Tryz.underlying49
 have HB0 := am (Below.refl w.heap.size w)
 have HZ := am hz
 have HY := am hy
 obtain ⟨M, hM⟩ : ∃ M : Nat, max zs.length ys.length = M := ⟨_, rfl⟩
 have hmx : (if (zs.length : Int) < (ys.length : Int) then (ys.length : Int) else (zs.length : Int)) = (M : Int) := by split <;> omega
 have hmx2 : (if zs.length < ys.length then (ys.length : Int) else (zs.length : Int)) = (M : Int) := by split <;> omega
 have HMX := am hmx
 have HMX2 := am hmx2
 clear hmx hmx2
 rw [hM]
 have HMM : Aside0 (M ≤ 900) := ⟨by omega⟩
 clear hC hD hz hy hM hlz hly
 go_enter Tryz.func10, Tryz.ntmps10
 go_wp2_with (first | ((with_reducible refine gate_dst (N := 7) rfl ?_); refine Kd.N_lit k56 (w0 := w) w.heap.size 49 rF (N' := 7) rF (xs := ([] : List S56)) (inner := []) (ok := fun _ => True) (okp := fun _ => True) gF ?hp (fun _ hk => hk) trivial HB0.out HB0.out.size (by simp) ?_; (case hp => exact Reps.none _ _); intro v7 w7 ho hb hg hn; have HO := am ho; have HB := am hb; clear ho hb hg hn))
 go_loopw [5, 6] (fun u v w' => ∃ i : Nat, i ≤ M ∧ v = .int .i64 i ∧ Aside0 (Kd.N k56 49 w' w.heap.size (fun _ => True) u ((addR zs ys i).map mkZ)) ∧ Aside0 (Below w.heap.size w w')) (fun _ v _ => M - (intOf v).toNat)
 case atStart => exact ⟨0, by omega, rfl, HO, HB⟩
 obtain ⟨i, hi, rfl, HO, HB⟩ := hrel
 have hi9 := HMM.out
 have hw : wrap64 ((i : Int) + 1) = ((i + 1 : Nat) : Int) := by unfold wrap64; omega
 by_cases h1 : i < M
 · have d1 : decide ((i : Int) < (M : Int)) = true := decide_eq_true (by omega)
   have hza : zlen (zat zs i) ≤ m := zat_mem (P := fun z => zlen z ≤ m) (by rw [zlen_zero]; omega) HZ.out i
   have hyb : zlen (zat ys i) ≤ m := zat_mem (P := fun z => zlen z ≤ m) (by rw [zlen_zero]; omega) HY.out i
   have HZA := am (add06_f hza hyb (by omega) K hK)
   clear hza hyb
   have hmx := HMX.out
   have hmx2 := HMX2.out
   go_wp2_with (first | (go_at_call 32; (try clear hmx hmx2); (with_reducible refine (r12at zs i A c _ (Kd.C_below HCC.out HB.out) (by assumption)).mono ?_); rintro e w20 ⟨A20, c20, rfl, hl20, hc20, hb20⟩; replace HO := am (Kd.N_below HO.out hb20); have HC20 := am hc20; have HL20 := am hl20; replace HB := am (below_step HB.out hb20); clear hl20 hc20 hb20) | (go_at_call 32; (try clear hmx hmx2); (with_reducible refine (r12at ys i B d _ (Kd.C_below HDD.out HB.out) (by assumption)).mono ?_); rintro e w23 ⟨A23, c23, rfl, hl23, hc23, hb23⟩; replace HO := am (Kd.N_below HO.out hb23); replace HC20 := am (Kd.C_below HC20.out hb23); have HC23 := am hc23; have HL23 := am hl23; replace HB := am (below_step HB.out hb23); clear hl23 hc23 hb23) | (go_at_call 31; (with_reducible refine (zigguratref06_Add.calls K (mkZ (zat zs i)).f0 A20 c20 (mkZ (zat zs i)).f1 (mkZ (zat ys i)).f0 A23 c23 (mkZ (zat ys i)).f1 _ _ _ HC20.out HL20.out HC23.out HL23.out HZA.out).mono ?_); rintro e w24 ⟨v24, rfl, hr24, hb24⟩; obtain ⟨A9, c9, rfl⟩ := Kd.R_slice hr24; replace HO := am (Kd.N_below HO.out hb24); have HR := am hr24; replace HB := am (below_step HB.out hb24); clear hr24 hb24) | ((with_reducible refine gate_builtin (b := .append) (xs := #[.tmp 17, .tmp 25]) rfl ?_); at_builtin; refine Kd.N_append k56 (w0 := w) w.heap.size rfl (.tmp 17) (.tmp 25) 22 49 (.agg #[(.bool false), (.slice none 0 0)]) 32 rfl Tryz.underlying22 info49 rfl (by decide) (by omega) _ _ (mkZ (zat zs i + zat ys i)) _ (fun _ => True) _ rfl rfl (FK_new HR.out HO.out _) (fun k hk => ⟨trivial, hk⟩) (fun _ _ => trivial) HO.out HB.out HB.out.size ?_ ?_; (case refine_1 => rw [List.length_map, addR_len]; omega); intro v26 w26 ho hb hg hat; have HO2 := am ho; have HB2 := am hb; clear ho hb hg hat))
   exact ⟨⟨i + 1, by omega, congrArg (Value.int .i64) (by omega), ⟨by rw [addR_succ, List.map_append]; exact HO2.out⟩, HB2⟩, by show M - ((i : Int) + 1).toNat < M - (i : Int).toNat; omega⟩
 have d1 : decide ((i : Int) < (M : Int)) = false := decide_eq_false (by omega)
 obtain rfl : i = M := by omega
 obtain ⟨A7, c7, e7, hl7, hC7⟩ := Kd.N_reads HO.out
 have hlen : ((addR zs ys i).map mkZ).length = i := by rw [List.length_map, addR_len]
 rw [hlen] at e7 hl7 hC7
 subst e7
 have HM := am hC7
 have HMC := am hl7
 have HZL : Aside0 (∀ z ∈ addR zs ys i, zlen z ≤ 1000) := ⟨fun z hz => by
   obtain ⟨j, _, rfl⟩ := List.mem_map.1 hz
   have := zlen_add (zat_mem (P := fun z => zlen z ≤ m) (by rw [zlen_zero]; omega) HZ.out (j : Int)) (zat_mem (P := fun z => zlen z ≤ m) (by rw [zlen_zero]; omega) HY.out (j : Int))
   omega⟩
 have HZN : Aside0 ((addR zs ys i).length = i) := ⟨addR_len _ _ _⟩
 have HIN : Aside0 (i ≤ 1000) := ⟨by omega⟩
 clear hl7 hC7
 have hmx := HMX.out
 have hmx2 := HMX2.out
 go_wp2_with (first | (go_at_call 25; (try clear hmx hmx2); (with_reducible refine (r12makeN K hK (addR zs ys i) HZL.out _ HZN.out HIN.out _ _ _ HM.out HMC.out).mono ?_); rintro e w28 ⟨A8, c8, rfl, hv8, hb8⟩; have HV := am hv8; have HB8 := am (below_step HB.out hb8); clear hv8 hb8))
 go_ret
 exact ⟨A8, c8, rfl, HV.out, HB8.out⟩
end Go.Proofs.YtjbcnppbcomaiaaGreatDoor.Q
namespace Go.Proofs.YtjbcnppbcomaiaaGreatDoor.Q
open Go.RowKit Go.Proofs.YtjbcnppbcomaiaaGreatDoorW.PrintWords Go.Proofs.YtjbcnppbcomaiaaGreatDoorW.PrintLast Go.Proofs.YtjbcnppbcomaiaaGreatDoorW.PrintMore
set_option linter.unusedVariables false
set_option linter.unusedSimpArgs false
def r12mul.T9 : Bool × List (List Nat × List Nat) := (true, [([], []), ([], []), ([], []), ([1, 2], [1, 2]), ([], []), ([], []), ([], []), ([5, 6], [5, 6]), ([4, 7, 3], [4, 7]), ([3, 8, 8], [3, 8]), ([0, 9, 9], [0, 9]), ([10, 10, 0, 1, 2, 3, 4, 5, 6, 7, 8, 9, 10], [10])])
def r12mul.B9 : List Nat := [0, 0, 0, 6, 0, 0, 0, 96, 254, 510, 1023, 2047]
theorem r12mul.tab9 : rtab .any (opsOf Tryz.f12 9) = r12mul.T9 := by kernel_rfl
theorem r12mul.bits9 : waitsOk r12mul.T9.2 r12mul.B9 = true := by kernel_rfl
def mulS (zs ys : List Int) (i : Nat) : Nat → Int
 | 0 => 0
 | k + 1 => mulS zs ys i k + zat zs (k : Int) * zat ys ((i : Int) - (k : Int))
def mulR (zs ys : List Int) (n : Nat) : List Int := (List.range n).map fun (i : Nat) => mulS zs ys i (i + 1)
theorem mulR_succ (zs ys : List Int) (n : Nat) : mulR zs ys (n + 1) = mulR zs ys n ++ [mulS zs ys n (n + 1)] := by simp [mulR, List.range_succ]
theorem mulR_len (zs ys : List Int) (n : Nat) : (mulR zs ys n).length = n := by simp [mulR]
theorem mkZ_zero : mkZ 0 = ⟨false, []⟩ := by simp [mkZ, toL_zero]
structure MuI (w : World) (g : Nat) (u : Value) (xs : List S56) (s : Int) (A : Option Addr) (c : Nat) (X : World) : Prop where
 hg : X.heap[g]? = some (.cells #[.bool (mkZ s).f0, .slice A (mkZ s).f1.length c] 49 (0, 0))
 hr : Kd.R (Kd.int .u32) 23 X w.heap.size (fun q => q ≠ g) (.slice A (mkZ s).f1.length c) (mkZ s).f1
 hn : Kd.N k56 49 X w.heap.size (fun q => q ≠ g) u xs
 hb : Below w.heap.size w X
 hw : w.heap.size ≤ g
theorem MuI.below {w X Y : World} {g : Nat} {u : Value} {xs : List S56} {s : Int} {A : Option Addr} {c : Nat} (h : MuI w g u xs s A c X) (hb : Below X.heap.size X Y) : MuI w g u xs s A c Y :=
 ⟨blk_below h.hg hb, Kd.R_below h.hr hb, Kd.N_below h.hn hb, below_step h.hb hb, h.hw⟩
theorem MuI.cells {w X : World} {g : Nat} {u : Value} {xs : List S56} {s : Int} {A : Option Addr} {c : Nat} (h : MuI w g u xs s A c X) (v : Value) : X.cell? ⟨g, 0, none⟩ = some (.bool (mkZ s).f0) ∧ X.cell? ⟨g, 1, none⟩ = some (.slice A (mkZ s).f1.length c) ∧ X.frozen? ⟨g, 0, none⟩ = false ∧ X.frozen? ⟨g, 1, none⟩ = false ∧ (X.setCell ⟨g, 0, none⟩ v).cell? ⟨g, 1, none⟩ = some (.slice A (mkZ s).f1.length c) ∧ (X.setCell ⟨g, 0, none⟩ v).frozen? ⟨g, 1, none⟩ = false := by
 have h2 := blk_put h.hg 0 v rfl
 exact ⟨blk_cell h.hg 0, blk_cell h.hg 1, blk_frozen h.hg 0, blk_frozen h.hg 1, (blk_cell h2 1).trans rfl, blk_frozen h2 1⟩
theorem MuI.put {w X Y : World} {g : Nat} {u : Value} {xs : List S56} {s t : Int} {A A2 : Option Addr} {c c2 : Nat} (h : MuI w g u xs s A c X) (hb : Below X.heap.size X Y) (hr : Kd.R (Kd.int .u32) 23 Y X.heap.size (fun _ => True) (.slice A2 (mkZ t).f1.length c2) (mkZ t).f1) :
   MuI w g u xs t A2 c2 ((Y.setCell ⟨g, 0, none⟩ (.bool (mkZ t).f0)).setCell ⟨g, 1, none⟩ (.slice A2 (mkZ t).f1.length c2)) := by
 have h1 := h.below hb
 have hlt : g < X.heap.size := blk_lt h.hg
 have hr2 : Kd.R (Kd.int .u32) 23 Y w.heap.size (fun q => q ≠ g) (.slice A2 (mkZ t).f1.length c2) (mkZ t).f1 := Kd.R_lower (Kd.R_mono (Kd.R_bound hr) (fun q hq e => by have := hq.2.1; omega)) h.hb.size
 refine ⟨blk_put (blk_put h1.hg 0 _ rfl) 1 _ rfl, Kd.R_far (p := ⟨g, 1, none⟩) (Kd.R_far (p := ⟨g, 0, none⟩) hr2 (fun _ hk => hk) _) (fun _ hk => hk) _, Kd.N_far (p := ⟨g, 1, none⟩) (Kd.N_far (p := ⟨g, 0, none⟩) h1.hn (fun _ hk => hk) _) (fun _ hk => hk) _, below_set (below_set h1.hb h.hw) h.hw, h.hw⟩
theorem MuI.start {w X : World} {u : Value} {xs : List S56} (g : Nat) (hgX : ∃ X0 : World, g = X0.heap.size ∧ Below X0.heap.size X0 X ∧ Kd.N k56 49 X0 w.heap.size (fun _ => True) u xs ∧ Below w.heap.size w X0) (hg : X.heap[g]? = some (.cells #[.bool false, .slice none 0 0] 49 (0, 0))) :
   MuI w g u xs 0 none 0 ((X.setCell ⟨g, 0, none⟩ (.bool false)).setCell ⟨g, 1, none⟩ (.slice none 0 0)) := by
 obtain ⟨X0, rfl, hb, hn, hb0⟩ := hgX
 have e0 : mkZ 0 = ⟨false, []⟩ := mkZ_zero
 refine ⟨?_, ?_, ?_, below_set (below_set (below_step hb0 hb) hb0.size) hb0.size, hb0.size⟩
 · rw [e0]
   exact blk_put (blk_put hg 0 _ rfl) 1 _ rfl
 · rw [e0]
   exact Kd.R_nil _ _ _ _ _
 · have h1 := Kd.N_below (Kd.N_elderB hn X0.heap.size (Nat.le_refl _)) hb
   exact Kd.N_far (p := ⟨X0.heap.size, 1, none⟩) (Kd.N_far (p := ⟨X0.heap.size, 0, none⟩) (Kd.N_mono h1 (fun k hk => hk.2)) (fun _ hk => hk) _) (fun _ hk => hk) _
theorem r12mul (K : Nat) (hK : 2000 ≤ K) (zs ys : List Int) (m : Nat) (hm : 2 * m + 1 ≤ 400) (hz : ∀ z ∈ zs, zlen z ≤ m) (hy : ∀ z ∈ ys, zlen z ≤ m) (hlz : zs.length ≤ 400) (hly : ys.length ≤ 400)
   (hmul : ∀ a b, zlen a ≤ m → zlen b ≤ m → zigguratref06_Mul.f K (mkZ a).f0 (mkZ a).f1 (mkZ b).f0 (mkZ b).f1 = some ((mkZ (a * b)).f0, (mkZ (a * b)).f1)) (hlen : ∀ i k, k ≤ 1000 → zlen (mulS zs ys i k) ≤ 2 * m + 1) (hprod : ∀ a b, zlen a ≤ m → zlen b ≤ m → zlen (a * b) ≤ 2 * m + 1)
   (A B : Option Addr) (c d : Nat) (w : World)
   (hC : Kd.C k56 w A zs.length (zs.map mkZ)) (hc : zs.length ≤ c) (hD : Kd.C k56 w B ys.length (ys.map mkZ)) (hd : ys.length ≤ d) :
   Calls Tryz.prog 12 #[.slice A zs.length c, .slice B ys.length d] w fun e w' => ∃ A' c', e = .returned (.slice A' (trimL (mulR zs ys (zs.length + ys.length - 1))).length c') ∧ RV w' (.slice A' (trimL (mulR zs ys (zs.length + ys.length - 1))).length c') (.i ((trimL (mulR zs ys (zs.length + ys.length - 1))).map mkZ)) ∧ Below w.heap.size w w' := by
 have HCC := am hC
 have HDD := am hD
 have hu49 := Tryz.underlying49
 have HB0 := am (Below.refl w.heap.size w)
 have HZ := am hz
 have HY := am hy
 have HMU := am hmul
 have HLE := am hlen
 have HPR := am hprod
 obtain ⟨M, hM⟩ : ∃ M : Nat, zs.length + ys.length - 1 = M := ⟨_, rfl⟩
 have HMM : Aside0 (M ≤ 900) := ⟨by omega⟩
 have HWL : Aside0 (wrap64 ((zs.length : Int) + (ys.length : Int)) = (zs.length : Int) + (ys.length : Int)) := ⟨by unfold wrap64; omega⟩
 have HWM : Aside0 (wrap64 ((zs.length : Int) + (ys.length : Int) - 1) = (zs.length : Int) + (ys.length : Int) - 1) := ⟨by unfold wrap64; omega⟩
 have HML : Aside0 (M = zs.length + ys.length - 1) := ⟨hM.symm⟩
 rw [hM]
 clear hC hD hz hy hlz hly hmul hlen hM hprod
 go_enter Tryz.func12, Tryz.ntmps12
 go_wp2_with (first | ((with_reducible refine gate_dst (N := 9) rfl ?_); refine Kd.N_lit k56 (w0 := w) w.heap.size 49 rF (N' := 9) rF (xs := ([] : List S56)) (inner := []) (ok := fun _ => True) (okp := fun _ => True) gF ?hp (fun _ hk => hk) trivial HB0.out HB0.out.size (by simp) ?_; (case hp => exact Reps.none _ _); intro v9 w9 ho hb hg hn; have HO := am ho; have HB := am hb; clear ho hb hg hn))
 go_loopw [5, 6] (fun u v w' => ∃ i : Nat, i ≤ M ∧ v = .int .i64 i ∧ Aside0 (Kd.N k56 49 w' w.heap.size (fun _ => True) u ((mulR zs ys i).map mkZ)) ∧ Aside0 (Below w.heap.size w w')) (fun _ v _ => M - (intOf v).toNat)
 case atStart => exact ⟨0, by omega, rfl, HO, HB⟩
 obtain ⟨i, hi, rfl, HO, HB⟩ := hrel
 rename_i u5 _
 have hi9 := HMM.out
 have hw : True → wrap64 ((i : Int) + 1) = ((i + 1 : Nat) : Int) := fun _ => (w64N (by omega) (by omega)).trans (by omega)
 by_cases h1 : i < M
 case neg =>
   have d1 : decide ((i : Int) < (zs.length : Int) + (ys.length : Int) - 1) = false := decide_eq_false (by have := HML.out; omega)
   have hwl := HWL.out
   have hwm := HWM.out
   obtain rfl : i = M := by omega
   obtain ⟨A7, c7, e7, hl7, hC7⟩ := Kd.N_reads HO.out
   have hlen : ((mulR zs ys i).map mkZ).length = i := by rw [List.length_map, mulR_len]
   rw [hlen] at e7 hl7 hC7
   subst e7
   have HM := am hC7
   have HMC := am hl7
   have HZL : Aside0 (∀ z ∈ mulR zs ys i, zlen z ≤ 1000) := ⟨fun z hz => by
     obtain ⟨j, hj, rfl⟩ := List.mem_map.1 hz
     have := HLE.out j (j + 1) (by have := List.mem_range.1 hj; omega)
     omega⟩
   have HZN : Aside0 ((mulR zs ys i).length = i) := ⟨mulR_len _ _ _⟩
   have HIN : Aside0 (i ≤ 1000) := ⟨by omega⟩
   clear hl7 hC7
   go_wp2_with (first | (go_at_call 25; (try clear hmx hmx2); (with_reducible refine (r12makeN K hK (mulR zs ys i) HZL.out _ HZN.out HIN.out _ _ _ HM.out HMC.out).mono ?_); rintro e w42 ⟨A8, c8, rfl, hv8, hb8⟩; have HV := am hv8; have HB8 := am (below_step HB.out hb8); clear hv8 hb8))
   go_ret
   exact ⟨A8, c8, rfl, HV.out, HB8.out⟩
 have d1 : decide ((i : Int) < (zs.length : Int) + (ys.length : Int) - 1) = true := decide_eq_true (by have := HML.out; omega)
 have hwl := HWL.out
 have hwm := HWM.out
 go_wp2_with (first | ((with_reducible refine gate_dst (N := 7) rfl ?_); refine boxE (N := 7) (cs := #[.bool false, .slice none 0 0]) (t := 49) ?_; intro g hg w7 hbox hb; have MS := am (MuI.start g ⟨_, hg, hb, HO.out, HB.out⟩ hbox); clear HO HB; have hcz0 : w7.cell? ⟨g, 0, none⟩ = some (.bool false) := (blk_cell hbox 0).trans rfl; have hcz1 : w7.cell? ⟨g, 1, none⟩ = some (.slice none 0 0) := (blk_cell hbox 1).trans rfl; have hfz0 := blk_frozen hbox 0; have hfz1 := blk_frozen hbox 1; clear hg hbox hb hwl hwm))
 go_loopw [8] (fun v w' => ∃ (k : Nat) (A8 : Option Addr) (c8 : Nat), k ≤ i + 1 ∧ v = .int .i64 k ∧ Aside0 (MuI w g u5 ((mulR zs ys i).map mkZ) (mulS zs ys i k) A8 c8 w')) (fun v _ => i + 1 - (intOf v).toNat)
 case atStart => exact ⟨0, none, 0, by omega, rfl, MS⟩
 clear MS hcz0 hcz1 hfz0 hfz1
 obtain ⟨k, As, cs, hk, rfl, MI⟩ := hrel
 have hwk : True → wrap64 ((k : Int) + 1) = ((k + 1 : Nat) : Int) := fun _ => (w64N (by omega) (by omega)).trans (by omega)
 by_cases hki : k ≤ i
 case neg =>
   have d2 : decide ((k : Int) ≤ (i : Int)) = false := decide_eq_false (by omega)
   obtain rfl : k = i + 1 := by omega
   obtain ⟨hx0, hx1, _⟩ := MI.out.cells (.bool false)
   have HO : Aside0 (Kd.N k56 49 _ w.heap.size (fun _ => True) u5 ((mulR zs ys i).map mkZ)) := ⟨Kd.N_mono MI.out.hn (fun _ _ => trivial)⟩
   have HR : Aside0 ((Kd.int .u32).R 23 _ w.heap.size (fun _ => True) (.slice As (mkZ (mulS zs ys i (i + 1))).f1.length cs) (mkZ (mulS zs ys i (i + 1))).f1) := ⟨Kd.R_mono MI.out.hr (fun _ _ => trivial)⟩
   have HB := am MI.out.hb
   have HMS : Aside0 ((mulR zs ys (i + 1)).map mkZ = (mulR zs ys i).map mkZ ++ [mkZ (mulS zs ys i (i + 1))]) := ⟨by rw [mulR_succ, List.map_append]; rfl⟩
   clear MI
   generalize mulS zs ys i (i + 1) = s at hx0 hx1 HR HMS
   go_wp2_with (first | ((with_reducible refine gate_builtin (b := .append) (xs := #[.tmp 37, .tmp 39]) rfl ?_); at_builtin; refine Kd.N_append k56 (w0 := w) w.heap.size rfl (.tmp 37) (.tmp 39) 22 49 (.agg #[(.bool false), (.slice none 0 0)]) 32 rfl Tryz.underlying22 info49 rfl (by decide) (by omega) _ _ (mkZ s) _ (fun _ => True) _ rfl rfl (FK_new HR.out HO.out _) (fun k hk => ⟨trivial, hk⟩) (fun _ _ => trivial) HO.out HB.out HB.out.size ?_ ?_; (case refine_1 => rw [List.length_map, mulR_len]; omega); intro v40 w40 ho hb hg hat; have HO2 := am ho; have HB2 := am hb; clear ho hb hg hat))
   exact ⟨⟨i + 1, by omega, congrArg (Value.int .i64) (by omega), ⟨by rw [HMS.out]; exact HO2.out⟩, HB2⟩, by show M - ((i : Int) + 1).toNat < M - (i : Int).toNat; omega⟩
 have d2 : decide ((k : Int) ≤ (i : Int)) = true := decide_eq_true (by omega)
 have hwik : wrap64 ((i : Int) - (k : Int)) = (i : Int) - (k : Int) := w64N (by omega) (by omega)
 have HAT : Aside0 (∀ W, Kd.C k56 W B ys.length (ys.map mkZ) → Calls Tryz.prog 32 #[.slice B ys.length d, .int .i64 (wrap64 ((i : Int) - (k : Int)))] W fun e w' => ∃ A' c', e = .returned (.agg #[.bool (mkZ (zat ys ((i : Int) - (k : Int)))).f0, .slice A' (mkZ (zat ys ((i : Int) - (k : Int)))).f1.length c']) ∧ (mkZ (zat ys ((i : Int) - (k : Int)))).f1.length ≤ c' ∧ Kd.C (Kd.int .u32) w' A' (mkZ (zat ys ((i : Int) - (k : Int)))).f1.length (mkZ (zat ys ((i : Int) - (k : Int)))).f1 ∧ Below W.heap.size W w') := ⟨fun W h => by rw [hwik]; exact r12at ys _ B d W h hd⟩
 clear hwik
 have HL1 : Aside0 (zlen (zat zs (k : Int)) ≤ m) := ⟨zat_mem (P := fun z => zlen z ≤ m) (by rw [zlen_zero]; omega) HZ.out _⟩
 have HL2 : Aside0 (zlen (zat ys ((i : Int) - (k : Int))) ≤ m) := ⟨zat_mem (P := fun z => zlen z ≤ m) (by rw [zlen_zero]; omega) HY.out _⟩
 have HSL : Aside0 (zlen (mulS zs ys i k) ≤ 2 * m + 1) := ⟨HLE.out i k (by omega)⟩
 have HSU : Aside0 (mulS zs ys i (k + 1) = mulS zs ys i k + zat zs (k : Int) * zat ys ((i : Int) - (k : Int))) := ⟨rfl⟩
 generalize mulS zs ys i k = s at MI HSL HSU
 go_wp2
 refine start_ (n := 12) (S := fun w' => MuI w g u5 ((mulR zs ys i).map mkZ) s As cs w') (ds := [11]) (bm 12 0) (by kernel_rfl) rfl rfl (MI.out.below (below_drew1 (Below.refl _ _))) (fun hHeld => ?_); refine with_tabW r12mul.tab9 r12mul.bits9 (fun HT_ HW_ => ?_)
 generalize World.drew _ = wd at hHeld ⊢
 refine pureB (N := some 27) 1 (bm 12 2) ?_
 refine pureB (N := some 28) 2 (bm 12 6) ?_
 refine pureB (N := some 30) 4 (bm 12 22) ?_
 refine pureB (N := some 31) 5 (bm 12 54) ?_
 refine pureB (N := some 32) 6 (bm 12 118) ?_
 refine pureB (N := some 33) 7 (bm 12 246) ?_
 refine take_ (i := 0) (N := some 26) (v := ?_) (a' := ?_) (bm 12 247) rfl rfl (take_ofW HT_.out HW_.out (by kernel_rfl)) (fun _ _ _ h => h) (Or.inl ⟨by rfl, ?_⟩) hHeld ?_ ?_
 rotate_left
 · intro w' hS_
   obtain ⟨q0_, q1_, _⟩ := hS_.cells (.bool false)
   go_simp
   with_reducible rfl
 rotate_left
 · exact actp
 refine one_ (i := 3) (N := some 29) (bm 12 255) rfl rfl (one_of HT_.out (by kernel_rfl)) (by decide) (fun KK hKK => ?_)
 refine goes_ Tryz.func32 (by kernel_rfl) rfl #[.slice A zs.length c, .int .i64 (k : Int)] (by rfl) rfl rfl aM ?_
 (with_reducible refine (r12at zs (k : Int) A c _ (Kd.C_below HCC.out hHeld.hb) hc).mono ?_)
 rintro e w29 ⟨A29, c29, rfl, hl29, hc29, hb29⟩
 refine ⟨_, rfl, ?_⟩
 have MI29 := am (hHeld.below hb29)
 clear hHeld
 refine hKK.out _ _ MI29.out (fun hHeld => ?_)
 clear hKK KK
 refine norm_ (a' := ?_) ?_ ?_
 rotate_left
 · show Act.put _ (some 29) _ = _; exact actp
 refine one_ (i := 8) (N := some 34) (bm 12 511) rfl rfl (one_of HT_.out (by kernel_rfl)) (by decide) (fun KK hKK => ?_)
 refine goes_ Tryz.func32 (by kernel_rfl) rfl #[.slice B ys.length d, .int .i64 (wrap64 ((i : Int) - (k : Int)))] (by rfl) rfl rfl aM ?_
 (with_reducible refine (HAT.out _ (Kd.C_below HDD.out hHeld.hb)).mono ?_)
 rintro e w34 ⟨A34, c34, rfl, hl34, hc34, hb34⟩
 refine ⟨_, rfl, ?_⟩
 replace hc29 := Kd.C_below hc29 hb34
 have MI34 := am (hHeld.below hb34)
 clear hHeld
 refine hKK.out _ _ MI34.out (fun hHeld => ?_)
 clear hKK KK
 refine norm_ (a' := ?_) ?_ ?_
 rotate_left
 · show Act.put _ (some 34) _ = _; exact actp
 refine one_ (i := 9) (N := some 35) (bm 12 1023) rfl rfl (one_of HT_.out (by kernel_rfl)) (by decide) (fun KK hKK => ?_)
 refine goes_ Tryz.func34 (by kernel_rfl) rfl #[.agg #[.bool (mkZ (zat zs (k : Int))).f0, .slice A29 (mkZ (zat zs (k : Int))).f1.length c29], .agg #[.bool (mkZ (zat ys ((i : Int) - (k : Int)))).f0, .slice A34 (mkZ (zat ys ((i : Int) - (k : Int)))).f1.length c34]] (by rfl) rfl rfl aM ?_
 (with_reducible refine (zigguratref06_Mul.calls K (mkZ (zat zs (k : Int))).f0 A29 c29 (mkZ (zat zs (k : Int))).f1 (mkZ (zat ys ((i : Int) - (k : Int)))).f0 A34 c34 (mkZ (zat ys ((i : Int) - (k : Int)))).f1 _ _ _ hc29 hl29 hc34 hl34 (HMU.out _ _ HL1.out HL2.out)).mono ?_)
 rintro e w35 ⟨v35, rfl, hr35, hb35⟩
 refine ⟨_, rfl, ?_⟩
 obtain ⟨A35, c35, rfl⟩ := Kd.R_slice hr35
 have h35 := Kd.R_reads' hr35
 have MI35 := am (hHeld.below hb35)
 clear hHeld
 refine hKK.out _ _ MI35.out (fun hHeld => ?_)
 clear hKK KK
 refine norm_ (a' := ?_) ?_ ?_
 rotate_left
 · show Act.put _ (some 35) _ = _; exact actp
 have hs35 := Kd.R_reads' hHeld.hr
 refine one_ (i := 10) (N := some 36) (bm 12 2047) rfl rfl (one_of HT_.out (by kernel_rfl)) (by decide) (fun KK hKK => ?_)
 refine goes_ Tryz.func31 (by kernel_rfl) rfl #[.agg #[.bool (mkZ s).f0, .slice As (mkZ s).f1.length cs], .agg #[.bool (mkZ (zat zs (k : Int) * zat ys ((i : Int) - (k : Int)))).f0, .slice A35 (mkZ (zat zs (k : Int) * zat ys ((i : Int) - (k : Int)))).f1.length c35]] (by rfl) rfl rfl aM ?_
 (with_reducible refine (zigguratref06_Add.calls K (mkZ s).f0 As cs (mkZ s).f1 (mkZ (zat zs (k : Int) * zat ys ((i : Int) - (k : Int)))).f0 A35 c35 (mkZ (zat zs (k : Int) * zat ys ((i : Int) - (k : Int)))).f1 _ _ _ hs35.2.2 hs35.2.1 h35.2.2 h35.2.1 (add06_f HSL.out (HPR.out _ _ HL1.out HL2.out) (by omega) K hK)).mono ?_)
 rintro e w36 ⟨v36, rfl, hr36, hb36⟩
 refine ⟨_, rfl, ?_⟩
 obtain ⟨A36, c36, rfl⟩ := Kd.R_slice hr36
 have MP := am (hHeld.put hb36 hr36)
 have MI36 := am (hHeld.below hb36)
 clear hHeld
 refine hKK.out _ _ MI36.out (fun hHeld => ?_)
 clear hKK KK
 refine norm_ (a' := ?_) ?_ ?_
 rotate_left
 · show Act.put _ (some 36) _ = _; exact actp
 obtain ⟨q0_, q1_, f0_, f1_, q2_, f2_⟩ := hHeld.cells (.bool (mkZ (s + zat zs (k : Int) * zat ys ((i : Int) - (k : Int)))).f0)
 refine last_ (i := 11) (N := none) (bm 12 4095) rfl rfl (one_of HT_.out (by kernel_rfl)) (by decide) (fun KK hKK => ?_)
 refine skip_ (w1 := ?_) (by rfl) rfl ?_ ?_
 rotate_left
 · go_simp
   rfl
 refine hKK.out _ _ ?_
 clear hKK KK
 refine done_ (done_of HT_.out (by kernel_rfl)) ?_
 clear HT_ HW_ hHeld
 go_wp2
 refine ⟨⟨k + 1, A36, c36, by omega, congrArg (Value.int .i64) (by omega), ⟨?_⟩⟩, by show i + 1 - ((k : Int) + 1).toNat < i + 1 - (k : Int).toNat; omega⟩
 rw [HSU.out]
 exact MP.out
end Go.Proofs.YtjbcnppbcomaiaaGreatDoor.Q
namespace Go.Proofs.YtjbcnppbcomaiaaGreatDoor.Q
open Go.RowKit Go.Proofs.YtjbcnppbcomaiaaGreatDoorW.PrintWords
set_option linter.unusedVariables false
theorem val_set : ∀ (l : List Int) (t : Nat), t < l.length → ∀ v : Int, valN (l.set t v) + 4294967296 ^ t * lim l t = valN l + 4294967296 ^ t * v.toNat
 | [], t, h, v => by simp at h
 | x :: l, 0, h, v => by simp [valN, lim]; omega
 | x :: l, t + 1, h, v => by
   have ih := val_set l t (by simpa using h) v
   have e : lim (x :: l) (t + 1) = lim l t := by simp [lim]
   rw [List.set_cons_succ, e]
   simp only [valN, Nat.pow_succ]
   generalize valN (l.set t v) = p at *
   generalize valN l = q at *
   have h1 : 4294967296 ^ t * 4294967296 * lim l t = 4294967296 * (4294967296 ^ t * lim l t) := by grind
   have h2 : 4294967296 ^ t * 4294967296 * v.toNat = 4294967296 * (4294967296 ^ t * v.toNat) := by grind
   rw [h1, h2]
   omega
theorem limbs_set {l : List Int} (h : Limbs l) (t : Nat) {v : Int} (h0 : 0 ≤ v) (h1 : v < 4294967296) : Limbs (l.set t v) := fun x hx => by
 rcases List.mem_or_eq_of_mem_set hx with hx | rfl
 · exact h x hx
 · exact ⟨h0, h1⟩
theorem lim_set_ne {l : List Int} {t s : Nat} (h : t ≠ s) (v : Int) : lim (l.set t v) s = lim l s := by
 unfold lim
 rw [List.getD_eq_getElem?_getD, List.getD_eq_getElem?_getD, List.getElem?_set_ne h]
theorem school_step {x y o c : Nat} (hx : x < 4294967296) (hy : y < 4294967296) (ho : o < 4294967296) (hc : c < 4294967296) :
   x * y + o + c < 18446744073709551616 ∧ IntKind.u64.wrap ((IntKind.u64.wrap ((IntKind.u64.wrap ((IntKind.u64.wrap (x : Int)) * (IntKind.u64.wrap (y : Int)))) + (IntKind.u64.wrap (o : Int)))) + (c : Int)) = ((x * y + o + c : Nat) : Int) := by
 have h1 : x * y ≤ 4294967295 * 4294967295 := Nat.mul_le_mul (by omega) (by omega)
 refine ⟨by omega, ?_⟩
 rw [u64w (z := (x : Int)) (by omega) (by omega), u64w (z := (y : Int)) (by omega) (by omega), u64w (z := (o : Int)) (by omega) (by omega), ← Int.natCast_mul, u64w (z := ((x * y : Nat) : Int)) (by omega) (by omega), u64w (z := ((x * y : Nat) : Int) + (o : Int)) (by omega) (by omega), u64w (by omega) (by omega)]
 omega
theorem drop_cons {l : List Int} {j : Nat} (h : j < l.length) : l.drop j = l[j] :: l.drop (j + 1) := List.drop_eq_getElem_cons h
theorem school_l1 {a b : List Int} (ha : Limbs a) (hb : Limbs b) (hlen : a.length + b.length < 1000000) (i : Nat) (hi : i < a.length) : ∀ (m j K : Nat) (out : List Int) (c : Nat), b.length - j = m → j ≤ b.length → Limbs out → out.length = a.length + b.length → c < 4294967296 → lim out (i + b.length) = 0 → m < K →
   ∃ out', Limbs out' ∧ out'.length = a.length + b.length ∧ (∀ t, i + b.length < t → lim out' t = lim out t) ∧ valN out' = valN out + 4294967296 ^ (i + j) * (c + lim a i * valN (b.drop j)) ∧
     zigguratref03_School.l1 K a b out (i : Int) (c : Int) (j : Int) = zigguratref03_School.l0 (K - m - 1) a b out' ((i + 1 : Nat) : Int) := by
 intro m
 induction m with
 | zero =>
   intro j K out c hm hj ho hl hc hz hK
   obtain rfl : j = b.length := by omega
   obtain ⟨K, rfl⟩ : ∃ k, K = k + 1 := ⟨K - 1, by omega⟩
   have hs := val_set out (i + b.length) (by omega) (c : Int)
   rw [hz] at hs
   refine ⟨out.set (i + b.length) (c : Int), limbs_set ho _ (by omega) (by omega), by rw [List.length_set]; exact hl, fun t ht => lim_set_ne (by omega) _, ?_, ?_⟩
   · rw [List.drop_length]
     simp only [valN, Nat.mul_zero, Nat.add_zero, Int.toNat_natCast] at hs ⊢
     omega
   · have e1 : True → wrap64 ((i : Int) + (b.length : Int)) = ((i + b.length : Nat) : Int) := fun _ => (w64N (by omega) (by omega)).trans (by omega)
     have e2 : True → wrap64 ((i : Int) + 1) = ((i + 1 : Nat) : Int) := fun _ => (w64N (by omega) (by omega)).trans (by omega)
     rw [zigguratref03_School.l1, if_neg (by omega), e1 trivial, if_pos (by omega), if_pos (by omega), e2 trivial, Int.toNat_natCast]
     have e3 : (c : Int) % 4294967296 = (c : Int) := by omega
     rw [e3]
     rfl
 | succ m ih =>
   intro j K out c hm hj ho hl hc hz hK
   obtain ⟨K, rfl⟩ : ∃ k, K = k + 1 := ⟨K - 1, by omega⟩
   have e1 : True → wrap64 ((i : Int) + (j : Int)) = ((i + j : Nat) : Int) := fun _ => (w64N (by omega) (by omega)).trans (by omega)
   have e2 : True → wrap64 ((j : Int) + 1) = ((j + 1 : Nat) : Int) := fun _ => (w64N (by omega) (by omega)).trans (by omega)
   have hst := school_step (lim_lt ha i) (lim_lt hb j) (lim_lt ho (i + j)) hc
   have hX := hst.1
   have eX := fun _ : True => hst.2
   clear hst
   rw [zigguratref03_School.l1, if_pos (by omega), if_pos (by omega), if_pos (by omega), if_pos (by omega), e1 trivial, if_pos (by omega), if_pos (by omega), e2 trivial, rd_nat ha, rd_nat hb, rd_nat ho, eX trivial, Int.toNat_natCast]
   generalize hXX : lim a i * lim b j + lim out (i + j) + c = X at *
   clear eX e1 e2
   have e3 : ((X : Nat) : Int) % 4294967296 = ((X % 4294967296 : Nat) : Int) := by omega
   have e4 : ((X : Nat) : Int) / 4294967296 = ((X / 4294967296 : Nat) : Int) := by omega
   rw [e3, e4]
   have hs := val_set out (i + j) (by omega) ((X % 4294967296 : Nat) : Int)
   obtain ⟨out', h1, h2, h3, h4, h5⟩ := ih (j + 1) K (out.set (i + j) ((X % 4294967296 : Nat) : Int)) (X / 4294967296) (by omega) (by omega) (limbs_set ho _ (by omega) (by omega)) (by rw [List.length_set]; exact hl) (by omega) (by rw [lim_set_ne (by omega)]; exact hz) (by omega)
   refine ⟨out', h1, h2, fun t ht => (h3 t ht).trans (lim_set_ne (by omega) _), ?_, ?_⟩
   · have hd : valN (b.drop j) = lim b j + 4294967296 * valN (b.drop (j + 1)) := by
       rw [drop_cons (by omega : j < b.length)]
       simp only [valN]
       congr 1
       simp [lim, List.getD_eq_getElem?_getD, List.getElem?_eq_getElem (by omega : j < b.length)]
     rw [h4, hd]
     rw [Int.toNat_natCast] at hs
     have hp : 4294967296 ^ (i + (j + 1)) = 4294967296 ^ (i + j) * 4294967296 := by rw [← Nat.add_assoc, Nat.pow_succ]
     rw [hp]
     have hX2 : X = X % 4294967296 + 4294967296 * (X / 4294967296) := by omega
     generalize X % 4294967296 = r at *
     generalize X / 4294967296 = q at *
     generalize valN (b.drop (j + 1)) = V at *
     generalize valN (out.set (i + j) (r : Int)) = v1 at *
     generalize 4294967296 ^ (i + j) = P at *
     generalize lim out (i + j) = o at *
     generalize lim a i = x at *
     generalize lim b j = y at *
     generalize valN out = v0 at *
     have h6 : v1 + P * o + P * (4294967296 * q) = v0 + P * (x * y + o + c) := by rw [hXX, hX2, Nat.mul_add]; omega
     grind
   · rw [h5]
     congr 1
     omega
theorem school_l0 {a b : List Int} (ha : Limbs a) (hb : Limbs b) (hlen : a.length + b.length < 1000000) : ∀ (m i K : Nat) (out : List Int), a.length - i = m → i ≤ a.length → Limbs out → out.length = a.length + b.length → (∀ t, i + b.length ≤ t → lim out t = 0) → valN out = valN (a.take i) * valN b → m * (b.length + 2) + a.length + b.length + 2 < K →
   zigguratref03_School.l0 K a b out (i : Int) = some (toL (valN a * valN b)) := by
 intro m
 induction m with
 | zero =>
   intro i K out hm hi ho hl hz hv hK
   obtain rfl : i = a.length := by omega
   obtain ⟨K, rfl⟩ : ∃ k, K = k + 1 := ⟨K - 1, by omega⟩
   rw [zigguratref03_School.l0, if_neg (by omega), rmake_f ho (by omega) (by omega), Option.bind_some, hv, List.take_length]
 | succ m ih =>
   intro i K out hm hi ho hl hz hv hK
   obtain ⟨K, rfl⟩ : ∃ k, K = k + 1 := ⟨K - 1, by omega⟩
   rw [Nat.succ_mul] at hK
   obtain ⟨out', h1, h2, h3, h4, h5⟩ := school_l1 ha hb hlen i (by omega) b.length 0 K out 0 (by omega) (by omega) ho hl (by omega) (hz _ (by omega)) (by omega)
   rw [zigguratref03_School.l0, if_pos (by omega)]
   refine h5.trans (ih (i + 1) _ out' (by omega) (by omega) h1 h2 (fun t ht => (h3 t (by omega)).trans (hz t (by omega))) ?_ (by omega))
   rw [h4, hv, val_take_succ ha, List.drop_zero]
   simp only [Nat.add_zero, Nat.zero_add]
   grind
theorem school_f {a b : List Int} (ha : Limbs a) (hb : Limbs b) (hlen : a.length + b.length ≤ 900) (K : Nat) (hK : 1000000 ≤ K) : zigguratref03_School.f K a b = some (toL (valN a * valN b)) := by
 unfold zigguratref03_School.f
 have e1 : True → wrap64 ((a.length : Int) + (b.length : Int)) = ((a.length + b.length : Nat) : Int) := fun _ => (w64N (by omega) (by omega)).trans (by omega)
 rw [e1 trivial, if_pos (by omega), if_pos (by omega), Int.toNat_natCast]
 have h0 : Limbs (List.replicate (a.length + b.length) (0 : Int)) := fun x hx => by rw [(List.mem_replicate.1 hx).2]; decide
 have hlim : ∀ t, lim (List.replicate (a.length + b.length) (0 : Int)) t = 0 := fun t => by
   unfold lim
   rw [List.getD_eq_getElem?_getD, List.getElem?_replicate]
   split <;> rfl
 have hval : ∀ n, valN (List.replicate n (0 : Int)) = 0 := fun n => by
   induction n with
   | zero => rfl
   | succ n ih => rw [List.replicate_succ, valN, ih]; rfl
 have hk : a.length * (b.length + 2) ≤ 900 * 902 := Nat.mul_le_mul (by omega) (by omega)
 exact school_l0 ha hb (by omega) a.length 0 K _ (by omega) (by omega) h0 (by rw [List.length_replicate]) (fun t _ => hlim t) (by rw [hval, List.take_zero]; simp [valN]) (by omega)
theorem zlen_mul {a b : Int} {m : Nat} (ha : zlen a ≤ m) (hb : zlen b ≤ m) : zlen (a * b) ≤ 2 * m := by
 rw [zlen_le] at ha hb ⊢
 rw [Int.natAbs_mul, show 2 * m = m + m by omega, Nat.pow_add]
 exact Nat.mul_lt_mul'' ha hb
theorem mul06_f {a b : Int} {m : Nat} (ha : zlen a ≤ m) (hb : zlen b ≤ m) (hm : m ≤ 200) (K : Nat) (hK : 1000000 ≤ K) : zigguratref06_Mul.f K (mkZ a).f0 (mkZ a).f1 (mkZ b).f0 (mkZ b).f1 = some ((mkZ (a * b)).f0, (mkZ (a * b)).f1) := by
 have hl := zlen_mul ha hb
 unfold zlen at ha hb hl
 rw [Int.natAbs_mul] at hl
 unfold zigguratref06_Mul.f zigguratref03_Mul.f
 have hs := school_f (limbs_toL a.natAbs) (limbs_toL b.natAbs) (by omega) K hK
 rw [val_toL, val_toL] at hs
 show ((zigguratref03_School.f K (toL a.natAbs) (toL b.natAbs)).bind fun t => some t).bind _ = _
 rw [hs, Option.bind_some, Option.bind_some, make06_f _ _ _ (by omega) (by omega), Option.bind_some]
 have e : (if (((mkZ a).f0 != (mkZ b).f0) = true) then -((a.natAbs * b.natAbs : Nat) : Int) else ((a.natAbs * b.natAbs : Nat) : Int)) = a * b := by
   rw [← Int.natAbs_mul]
   simp only [mkZ]
   by_cases h1 : a < 0
   case neg =>
     by_cases h2 : b < 0
     · have h3 : a * b ≤ 0 := Int.mul_nonpos_of_nonneg_of_nonpos (by omega) (by omega)
       simp [h1, h2]
       omega
     · have h3 : 0 ≤ a * b := Int.mul_nonneg (by omega) (by omega)
       simp [h1, h2]
       omega
   by_cases h2 : b < 0
   · have h3 : 0 < a * b := Int.mul_pos_of_neg_of_neg h1 h2
     simp [h1, h2]
     omega
   · have h3 : a * b ≤ 0 := Int.mul_nonpos_of_nonpos_of_nonneg (by omega) (by omega)
     simp [h1, h2]
     omega
 rw [e]
end Go.Proofs.YtjbcnppbcomaiaaGreatDoor.Q
namespace Go.Proofs.YtjbcnppbcomaiaaGreatDoor.Q
open Go.RowKit Go.Proofs.YtjbcnppbcomaiaaGreatDoorW.PrintWords
set_option linter.unusedVariables false
set_option linter.unusedSimpArgs false
theorem bits_or32 {a b : Nat} (ha : a < 4294967296) (hb : b < 4294967296) : Go.bits .or .u32 (a : Int) (b : Int) = ((a ||| b : Nat) : Int) := by
 have h : a ||| b < 2 ^ 32 := Nat.or_lt_two_pow ha hb
 have e : Go.bits .or .u32 (a : Int) (b : Int) = IntKind.u32.wrap ((BitVec.ofInt 32 (a : Int) ||| BitVec.ofInt 32 (b : Int)).toNat : Int) := rfl
 rw [e, BitVec.ofInt_natCast, BitVec.ofInt_natCast, BitVec.toNat_or, BitVec.toNat_ofNat, BitVec.toNat_ofNat, Nat.mod_eq_of_lt ha, Nat.mod_eq_of_lt hb, IntKind.wrap_u32]
 omega
theorem bits_xor32 {a b : Nat} (ha : a < 4294967296) (hb : b < 4294967296) : Go.bits .xor .u32 (a : Int) (b : Int) = ((a ^^^ b : Nat) : Int) := by
 have h : a ^^^ b < 2 ^ 32 := Nat.xor_lt_two_pow ha hb
 have e : Go.bits .xor .u32 (a : Int) (b : Int) = IntKind.u32.wrap ((BitVec.ofInt 32 (a : Int) ^^^ BitVec.ofInt 32 (b : Int)).toNat : Int) := rfl
 rw [e, BitVec.ofInt_natCast, BitVec.ofInt_natCast, BitVec.toNat_xor, BitVec.toNat_ofNat, BitVec.toNat_ofNat, Nat.mod_eq_of_lt ha, Nat.mod_eq_of_lt hb, IntKind.wrap_u32]
 omega
theorem addG_eq {x y c : Nat} (hx : x < 4294967296) (hy : y < 4294967296) (hc : c ≤ 1) : addG x y c = ((((x + y + c) % 4294967296 : Nat) : Int), (((x + y + c) / 4294967296 : Nat) : Int)) := by
 simp only [addG, bits_Add32.f, Option.getD_some]
 rw [u64w (z := (x : Int)) (by omega) (by omega), u64w (z := (y : Int)) (by omega) (by omega), u64w (z := (c : Int)) (by omega) (by omega), u64w (z := (x : Int) + y) (by omega) (by omega), u64w (z := (x : Int) + y + c) (by omega) (by omega)]
 congr 1 <;> omega
theorem out_add (f1 f2 : Nat → Nat) (h1 : ∀ i, f1 i < 4294967296) (h2 : ∀ i, f2 i < 4294967296) : ∀ n, ∃ c : Nat, c ≤ 1 ∧ (outOf addG (upto (fun i => ((f1 i : Int), (f2 i : Int))) n)).2 = (c : Int) ∧
   Limbs (outOf addG (upto (fun i => ((f1 i : Int), (f2 i : Int))) n)).1 ∧ (outOf addG (upto (fun i => ((f1 i : Int), (f2 i : Int))) n)).1.length = n ∧
   valN (outOf addG (upto (fun i => ((f1 i : Int), (f2 i : Int))) n)).1 + 4294967296 ^ n * c = upV f1 n + upV f2 n := by
 intro n
 induction n with
 | zero => exact ⟨0, by omega, rfl, limbs_nil, rfl, by simp [upto, outOf, valN, upV]⟩
 | succ n ih =>
   obtain ⟨c, hc, e2, hl, hn, hv⟩ := ih
   rw [upto_succ, outOf_snoc, e2]
   dsimp only
   rw [addG_eq (h1 n) (h2 n) hc]
   refine ⟨(f1 n + f2 n + c) / 4294967296, ?_, rfl, limbs_snoc hl (by omega) (by omega), ?_, ?_⟩
   · have := h1 n; have := h2 n; omega
   · rw [List.length_append, hn]; rfl
   · rw [val_snoc, hn]
     simp only [upV, Int.toNat_natCast, Nat.pow_succ]
     have hd := Nat.div_add_mod (f1 n + f2 n + c) 4294967296
     generalize (f1 n + f2 n + c) / 4294967296 = q at *
     generalize hr : (f1 n + f2 n + c) % 4294967296 = r at *
     generalize 4294967296 ^ n = M at *
     have h5 : M * f1 n + M * f2 n + M * c = M * 4294967296 * q + M * r := by
       rw [← Nat.mul_add, ← Nat.mul_add, Nat.mul_assoc, ← Nat.mul_add, hd]
     omega
theorem rows_eq {l0 l1 : List Int} (h0 : Limbs l0) (h1 : Limbs l1) : (fun i => (rowAt l0 i, rowAt l1 i)) = (fun i => ((lim l0 i : Int), (lim l1 i : Int))) := by
 funext i
 rw [rowAt, rowAt, rd_nat h0, rd_nat h1]
theorem fin1 (V x y z p q c : Nat) (hc : c ≤ 1) (hv : V + z * 4294967296 * c = p + q) (a1 : p < x) (a2 : q < y) (b1 : x ≤ z) (b2 : y ≤ z) : V = p + q := by
 rcases (show c = 0 ∨ c = 1 by omega) with rfl | rfl
 · rw [Nat.mul_zero, Nat.add_zero] at hv
   exact hv
 · exfalso
   rw [Nat.mul_one] at hv
   have h2 : z * 2 ≤ z * 4294967296 := Nat.mul_le_mul_left _ (by decide)
   generalize z * 4294967296 = u at *
   omega
theorem add_row {l0 l1 : List Int} (h0 : Limbs l0) (h1 : Limbs l1) : Limbs (allRow addG l0 l1 (max l0.length l1.length + 1)) ∧ (allRow addG l0 l1 (max l0.length l1.length + 1)).length = max l0.length l1.length + 1 ∧ valN (allRow addG l0 l1 (max l0.length l1.length + 1)) = valN l0 + valN l1 := by
 unfold allRow
 rw [rows_eq h0 h1]
 obtain ⟨m, hm⟩ : ∃ m, max l0.length l1.length = m := ⟨_, rfl⟩
 rw [hm]
 obtain ⟨c, hc, e2, hl, hn, hv⟩ := out_add (lim l0) (lim l1) (lim_lt h0) (lim_lt h1) (m + 1)
 refine ⟨hl, hn, ?_⟩
 rw [upV_all h0 (by omega), upV_all h1 (by omega)] at hv
 have a1 := val_lt h0
 have a2 := val_lt h1
 have b1 : 4294967296 ^ l0.length ≤ 4294967296 ^ m := Nat.pow_le_pow_right (by omega) (by omega)
 have b2 : 4294967296 ^ l1.length ≤ 4294967296 ^ m := Nat.pow_le_pow_right (by omega) (by omega)
 rw [Nat.pow_succ] at hv
 exact fin1 _ _ _ _ _ _ c hc hv a1 a2 b1 b2
theorem add_f {a b k : Nat} (ha : (toL a).length < 1099511627776) (hb : (toL b).length < 1099511627776) (hk : max (toL a).length (toL b).length + 1 < k) : nat_Add.f k (toL a) (toL b) = some (toL (a + b)) := by
 unfold nat_Add.f
 rw [if_pos (by omega)]
 obtain ⟨h1, h2, h3⟩ := add_row (limbs_toL a) (limbs_toL b)
 rw [make_f h1 (by omega) (by omega), h3, val_toL, val_toL]
theorem top_bit {x : Nat} (h : x < 4294967296) : x / 2147483648 = (x.testBit 31).toNat := by
 rw [Nat.testBit_eq_decide_div_mod_eq]
 have e : (2 : Nat) ^ 31 = 2147483648 := by decide
 rw [e]
 by_cases h1 : x < 2147483648
 · have : x / 2147483648 = 0 := by omega
   rw [this]; rfl
 · have : x / 2147483648 = 1 := by omega
   rw [this]; rfl
theorem top_is {x : Nat} (h : x < 4294967296) : x.testBit 31 = decide (2147483648 ≤ x) := by
 rw [Nat.testBit_eq_decide_div_mod_eq]
 have e : (2 : Nat) ^ 31 = 2147483648 := by decide
 rw [e]
 by_cases h1 : 2147483648 ≤ x
 · have : x / 2147483648 = 1 := by omega
   simp [this, h1]
 · have : x / 2147483648 = 0 := by omega
   simp [this, h1]
theorem subG_eq {x y c : Nat} (hx : x < 4294967296) (hy : y < 4294967296) (hc : c ≤ 1) : ∃ s b : Nat, subG x y c = ((s : Int), (b : Int)) ∧ s < 4294967296 ∧ b ≤ 1 ∧ x + 4294967296 * b = s + y + c := by
 obtain ⟨d, hd⟩ : ∃ d : Nat, ((((x : Int) - y) % 4294967296) - c) % 4294967296 = (d : Int) := ⟨(((((x : Int) - y) % 4294967296) - c) % 4294967296).toNat, by omega⟩
 have hdl : d < 4294967296 := by omega
 have hM : (4294967295 : Nat) < 4294967296 := by decide
 have n1 : 4294967295 ^^^ x < 4294967296 := Nat.xor_lt_two_pow (n := 32) hM hx
 have n2 : (4294967295 ^^^ x) &&& y < 4294967296 := Nat.and_lt_two_pow (n := 32) _ hy
 have n3 : x ^^^ y < 4294967296 := Nat.xor_lt_two_pow (n := 32) hx hy
 have n4 : 4294967295 ^^^ (x ^^^ y) < 4294967296 := Nat.xor_lt_two_pow (n := 32) hM n3
 have n5 : (4294967295 ^^^ (x ^^^ y)) &&& d < 4294967296 := Nat.and_lt_two_pow (n := 32) _ hdl
 have n6 : ((4294967295 ^^^ x) &&& y) ||| ((4294967295 ^^^ (x ^^^ y)) &&& d) < 4294967296 := Nat.or_lt_two_pow (n := 32) n2 n5
 have e : subG x y c = ((d : Int), (((((4294967295 ^^^ x) &&& y) ||| ((4294967295 ^^^ (x ^^^ y)) &&& d)) / 2147483648 : Nat) : Int)) := by
   simp only [subG, bits_Sub32.f, Option.getD_some]
   rw [hd]
   have q1 : Go.bits .xor .u32 4294967295 (x : Int) = ((4294967295 ^^^ x : Nat) : Int) := bits_xor32 hM hx
   rw [q1, bits_and32 n1 hy, bits_xor32 hx hy]
   have q2 : Go.bits .xor .u32 4294967295 ((x ^^^ y : Nat) : Int) = ((4294967295 ^^^ (x ^^^ y) : Nat) : Int) := bits_xor32 hM n3
   rw [q2, bits_and32 n4 hdl, bits_or32 n2 n5]
   congr 1
 rw [top_bit n6] at e
 have tM : Nat.testBit 4294967295 31 = true := by decide
 rw [Nat.testBit_or, Nat.testBit_and, Nat.testBit_and, Nat.testBit_xor, Nat.testBit_xor, Nat.testBit_xor, tM, top_is hx, top_is hy, top_is hdl] at e
 refine ⟨d, _, e, hdl, ?_, ?_⟩
 · generalize ((true ^^ decide (2147483648 ≤ x)) && decide (2147483648 ≤ y) || (true ^^ (decide (2147483648 ≤ x) ^^ decide (2147483648 ≤ y))) && decide (2147483648 ≤ d)) = b
   cases b <;> decide
 · clear e n1 n2 n3 n4 n5 n6 tM hM
   by_cases hx1 : 2147483648 ≤ x <;> by_cases hy1 : 2147483648 ≤ y <;> by_cases hd1 : 2147483648 ≤ d <;> simp [hx1, hy1, hd1] <;> omega
theorem out_sub (f1 f2 : Nat → Nat) (h1 : ∀ i, f1 i < 4294967296) (h2 : ∀ i, f2 i < 4294967296) : ∀ n, ∃ c : Nat, c ≤ 1 ∧ (outOf subG (upto (fun i => ((f1 i : Int), (f2 i : Int))) n)).2 = (c : Int) ∧
   Limbs (outOf subG (upto (fun i => ((f1 i : Int), (f2 i : Int))) n)).1 ∧ (outOf subG (upto (fun i => ((f1 i : Int), (f2 i : Int))) n)).1.length = n ∧
   valN (outOf subG (upto (fun i => ((f1 i : Int), (f2 i : Int))) n)).1 + upV f2 n = upV f1 n + 4294967296 ^ n * c := by
 intro n
 induction n with
 | zero => exact ⟨0, by omega, rfl, limbs_nil, rfl, by simp [upto, outOf, valN, upV]⟩
 | succ n ih =>
   obtain ⟨c, hc, e2, hl, hn, hv⟩ := ih
   obtain ⟨s, b, e3, hs, hb, hsb⟩ := subG_eq (h1 n) (h2 n) hc
   rw [upto_succ, outOf_snoc, e2]
   dsimp only
   rw [e3]
   refine ⟨b, hb, rfl, limbs_snoc hl (by omega) (by omega), ?_, ?_⟩
   · rw [List.length_append, hn]; rfl
   · rw [val_snoc, hn]
     simp only [upV, Int.toNat_natCast, Nat.pow_succ]
     generalize 4294967296 ^ n = M at *
     have h5 : M * f1 n + M * 4294967296 * b = M * s + M * f2 n + M * c := by
       rw [Nat.mul_assoc, ← Nat.mul_add, ← Nat.mul_add, ← Nat.mul_add, hsb]
     omega
theorem sub_f {a b k : Nat} (ha : (toL a).length < 1099511627776) (hb : (toL b).length < 1099511627776) (hk : (toL a).length < k) :
   nat_Sub.f k (toL a) (toL b) = some (if a < b then ([], false) else (toL (a - b), true)) := by
 unfold nat_Sub.f
 rw [cmp_f (by omega) (by omega) hk, Option.bind_some]
 by_cases h : a < b
 · have e1 : cmpN a b = -1 := by unfold cmpN; rw [if_pos h]
   rw [e1, if_pos (by decide), if_pos h]
 have e1 : ¬ cmpN a b < 0 := by unfold cmpN; rw [if_neg h]; split <;> omega
 rw [if_neg e1, if_pos (by omega), if_neg h]
 obtain ⟨c, hc, e2, hl, hn, hv⟩ := out_sub (lim (toL a)) (lim (toL b)) (lim_lt (limbs_toL a)) (lim_lt (limbs_toL b)) (toL a).length
 have hle : (toL b).length ≤ (toL a).length := by
   rw [toL_length_le]
   exact Nat.lt_of_le_of_lt (Nat.le_of_not_lt h) (val_lt_toL a)
 rw [upV_all (limbs_toL a) (Nat.le_refl _), upV_all (limbs_toL b) hle, val_toL, val_toL] at hv
 unfold allRow
 rw [rows_eq (limbs_toL a) (limbs_toL b), make_f hl (by omega) (by omega), Option.bind_some]
 have hvl := val_lt hl
 rw [hn] at hvl
 have : c = 0 := by
   rcases (show c = 0 ∨ c = 1 by omega) with rfl | rfl
   · rfl
   · omega
 subst this
 have : valN (outOf subG (upto (fun i => ((lim (toL a) i : Int), (lim (toL b) i : Int))) (toL a).length)).1 = a - b := by omega
 rw [this]
end Go.Proofs.YtjbcnppbcomaiaaGreatDoor.Q
namespace Go.Proofs.YtjbcnppbcomaiaaGreatDoor.Q
open Go.RowKit Go.Proofs.YtjbcnppbcomaiaaGreatDoorW.PrintWords
set_option linter.unusedVariables false
theorem sm_fold {xs : List Int} (hx : Limbs xs) {p : Nat} (hp : 0 < p) (hp2 : p < 4294967296) : ∀ (j : Nat) (out : List Int) (r : Nat), j ≤ xs.length → Limbs out → out.length = xs.length → r < p → valN (out.drop j) * p + r = valN (xs.drop j) →
   ∃ out' r', ((List.range j).reverse).foldl (smStep xs (p : Int)) (out, (r : Int)) = (out', ((r' : Nat) : Int)) ∧ Limbs out' ∧ out'.length = xs.length ∧ r' < p ∧ valN out' * p + r' = valN xs := by
 intro j
 induction j with
 | zero =>
   intro out r hj ho hl hr hv
   exact ⟨out, r, rfl, ho, hl, hr, by simpa using hv⟩
 | succ j ih =>
   intro out r hj ho hl hr hv
   rw [List.range_succ, List.reverse_append, List.reverse_singleton, List.singleton_append, List.foldl_cons]
   have hxl := lim_lt hx j
   have hrp : r * 4294967296 ≤ (p - 1) * 4294967296 := Nat.mul_le_mul_right _ (by omega)
   obtain ⟨t, ht⟩ : ∃ t, r * 4294967296 + lim xs j = t := ⟨_, rfl⟩
   have hq : t / p < 4294967296 := by
     rw [Nat.div_lt_iff_lt_mul hp]
     rw [Nat.sub_mul] at hrp
     omega
   have hm := Nat.mod_lt t hp
   have e1 : smStep xs (p : Int) (out, (r : Int)) j = (out.set j ((t / p : Nat) : Int), ((t % p : Nat) : Int)) := by
     unfold smStep
     rw [rd_nat hx]
     have e2 : (r : Int) * 4294967296 + (lim xs j : Int) = (t : Int) := by omega
     simp only [e2]
     rw [Int.natCast_ediv, Int.natCast_emod]
   rw [e1]
   refine ih (out.set j ((t / p : Nat) : Int)) (t % p) (by omega) (limbs_set ho _ (Int.natCast_nonneg _) (Int.ofNat_lt.2 hq)) (by rw [List.length_set]; exact hl) hm ?_
   have hd1 : (out.set j ((t / p : Nat) : Int)).drop j = ((t / p : Nat) : Int) :: out.drop (j + 1) := by
     rw [List.drop_eq_getElem_cons (by rw [List.length_set]; omega), List.getElem_set_self, List.drop_set_of_lt (by omega)]
   have hd2 : xs.drop j = xs[j] :: xs.drop (j + 1) := List.drop_eq_getElem_cons (by omega)
   have hd3 : (xs[j]).toNat = lim xs j := by simp [lim, List.getD_eq_getElem?_getD, List.getElem?_eq_getElem (by omega : j < xs.length)]
   rw [hd1, hd2]
   simp only [valN, Int.toNat_natCast, hd3]
   rw [← hv]
   have hdm : p * (t / p) + t % p = t := Nat.div_add_mod t p
   generalize valN (out.drop (j + 1)) = V
   rw [Nat.add_mul]
   have h5 : t / p * p = p * (t / p) := Nat.mul_comm _ _
   have h6 : 4294967296 * V * p = 4294967296 * (V * p) := Nat.mul_assoc _ _ _
   omega
theorem revs_val (n : Nat) : (revs n).map Fin.val = (List.range n).reverse := by
 unfold revs
 rw [List.map_reverse]
 congr 1
 apply List.ext_getElem <;> simp
theorem smOf_is {xs : List Int} (hx : Limbs xs) {p : Nat} (hp : 0 < p) (hp2 : p < 4294967296) :
   ∃ out, smOf xs (p : Int) xs.length (revs xs.length) = (out, ((valN xs % p : Nat) : Int)) ∧ Limbs out ∧ out.length = xs.length ∧ valN out = valN xs / p := by
 unfold smOf
 rw [revs_val]
 have h0 : Limbs (List.replicate xs.length (0 : Int)) := fun x hx => by rw [(List.mem_replicate.1 hx).2]; decide
 obtain ⟨out', r', h1, h2, h3, h4, h5⟩ := sm_fold hx hp hp2 xs.length (List.replicate xs.length 0) 0 (Nat.le_refl _) h0 (by simp) hp (by rw [List.drop_length, List.drop_of_length_le (by simp)]; simp [valN])
 have e1 : valN xs % p = r' := by
   rw [← h5, Nat.mul_comm, Nat.mul_add_mod, Nat.mod_eq_of_lt h4]
 have e2 : valN out' = valN xs / p := by
   rw [← h5, Nat.mul_comm, Nat.mul_add_div hp, Nat.div_eq_of_lt h4, Nat.add_zero]
 exact ⟨out', by rw [e1]; exact h1, h2, h3, e2⟩
theorem toL_one {p : Nat} (hp : 0 < p) (hp2 : p < 4294967296) : toL p = [(p : Int)] := by
 rw [toL_pos (by omega), Nat.mod_eq_of_lt hp2, Nat.div_eq_of_lt hp2, toL_zero]
theorem div_f (n p : Nat) (hp : 0 < p) (hp2 : p < 4294967296) (hl : (toL n).length ≤ 1000) (K : Nat) (hK : 2000 ≤ K) : div_DivMod.f K (toL n) [(p : Int)] = some (toL (n / p), toL (n % p), 0) := by
 unfold div_DivMod.f
 simp only
 rw [if_pos ⟨by omega, by omega, limbs_toL n, by omega⟩]
 have hc := cmp_f (a := n) (b := p) (k := K) (by omega) (by rw [toL_one hp hp2]; simp) (by omega)
 rw [toL_one hp hp2] at hc
 rw [hc, Option.bind_some]
 by_cases h : n < p
 · have e : cmpN n p < 0 := by unfold cmpN; rw [if_pos h]; decide
   rw [if_pos e, Nat.div_eq_of_lt h, Nat.mod_eq_of_lt h, toL_zero]
 have e : ¬ cmpN n p < 0 := by unfold cmpN; rw [if_neg h]; split <;> decide
 have hpos : 0 < (toL n).length := List.length_pos_iff.2 (fun h2 => by have := toL_nil.1 h2; omega)
 rw [if_neg e, if_pos hpos]
 obtain ⟨out, e1, e2, e3, e4⟩ := smOf_is (limbs_toL n) hp hp2
 rw [val_toL] at e1 e4
 rw [e1]
 simp only
 have hm := Nat.mod_lt n hp
 rw [make_f e2 (by omega) (by omega), Option.bind_some, e4, make_f (limbs_mk (Int.natCast_nonneg _) (Int.ofNat_lt.2 (Nat.lt_trans hm hp2)) limbs_nil) (by simp) (by simp; omega), Option.bind_some]
 have e5 : valN [((n % p : Nat) : Int)] = n % p := by simp only [valN, Int.toNat_natCast, Nat.mul_zero, Nat.add_zero]
 rw [e5]
theorem imake_f (b : Bool) (n K : Nat) (hl : (toL n).length ≤ 2000) (hK : 3000 ≤ K) : ∃ c, integer_Make.f K b (toL n) = some (c, toL n) := by
 unfold integer_Make.f
 rw [make_f (limbs_toL n) (by omega) (by omega), val_toL, Option.bind_some]
 cases b
 · exact ⟨_, rfl⟩
 · exact ⟨_, rfl⟩
theorem len_succ {n m : Nat} (h : (toL n).length ≤ m) : (toL (n + 1)).length ≤ m + 1 := by
 rw [toL_length_le] at h ⊢
 rw [Nat.pow_succ]
 have : 0 < 4294967296 ^ m := Nat.pow_pos (by decide)
 omega
theorem idiv_f (z : Int) (p : Nat) (hp : 0 < p) (hp2 : p < 4294967296) (hz : zlen z ≤ 900) (K : Nat) (hK : 5000 ≤ K) : ∃ a b c, integer_DivMod.f K (mkZ z).f0 (mkZ z).f1 false [(p : Int)] = some (a, b, c, toL (z % (p : Int)).toNat, 0) := by
 have hlen := hz
 unfold zlen at hz
 have hm := Nat.mod_lt z.natAbs hp
 have hq : (toL (z.natAbs / p)).length ≤ 900 := len_mono (Nat.div_le_self _ _) hz
 have hr1 : ∀ x, x < 4294967296 → (toL x).length ≤ 1 := fun x hx => toL_length_le.2 (by simpa using hx)
 unfold integer_DivMod.f
 show ∃ a b c, ((div_DivMod.f K (toL z.natAbs) [(p : Int)]).bind _) = some (a, b, c, toL (z % (p : Int)).toNat, 0)
 rw [div_f z.natAbs p hp hp2 (by omega) K (by omega), Option.bind_some]
 simp only
 rw [if_pos trivial]
 obtain ⟨K, rfl⟩ : ∃ k, K = k + 1 := ⟨K - 1, by omega⟩
 have hplain : ∀ n r : Nat, (toL n).length ≤ 900 → r < p → ∀ b1 b2 c1 l1, ∃ a b c, integer_DivMod.j0 (K + 1) (toL n) (toL r) false b1 l1 b2 c1 = some (a, b, c, toL r, 0) := fun n r hn hr b1 b2 c1 l1 => by
   rw [integer_DivMod.j0, if_neg (by simp)]
   obtain ⟨x, hx⟩ := imake_f (b1 != b2) n K (by omega) (by omega)
   obtain ⟨y, hy⟩ := imake_f false r K (by have := hr1 r (by omega); omega) (by omega)
   rw [hx, Option.bind_some, hy, Option.bind_some]
   exact ⟨_, _, _, rfl⟩
 by_cases hn : z < 0
 case neg =>
   have e0 : (mkZ z).f0 = false := by simp [mkZ, hn]
   rw [e0, if_neg (by decide)]
   have e1 : (z % (p : Int)).toNat = z.natAbs % p := by
     have h1 : z = (z.natAbs : Int) := by omega
     rw [h1, ← Int.natCast_emod, Int.toNat_natCast, Int.natAbs_natCast]
   rw [e1]
   exact hplain _ _ hq hm _ _ _ _
 have e0 : (mkZ z).f0 = true := by simp [mkZ, hn]
 rw [e0, if_pos rfl]
 have hzz : z = -(z.natAbs : Int) := by omega
 have hdm := Nat.div_add_mod z.natAbs p
 by_cases h0 : z.natAbs % p = 0
 · have e1 : (z % (p : Int)).toNat = z.natAbs % p := by
     have h1 : (p : Int) ∣ z := by
       rw [hzz]
       exact Int.dvd_neg.2 (Int.natCast_dvd_natCast.2 (Nat.dvd_of_mod_eq_zero h0))
     rw [Int.emod_eq_zero_of_dvd h1, h0]
     rfl
   have e2 : decide (((toL (z.natAbs % p)).length : Int) > 0) = false := by rw [h0, toL_zero]; rfl
   rw [e2, e1]
   exact hplain _ _ hq hm _ _ _ _
 have e2 : decide (((toL (z.natAbs % p)).length : Int) > 0) = true := decide_eq_true (by have : 0 < (toL (z.natAbs % p)).length := List.length_pos_iff.2 (fun h2 => h0 (toL_nil.1 h2)); omega)
 have e1 : (z % (p : Int)).toNat = p - z.natAbs % p := by
   have h1 : z % (p : Int) = ((p - z.natAbs % p : Nat) : Int) := by
     have h2 : z = ((p - z.natAbs % p : Nat) : Int) + (p : Int) * (-(z.natAbs / p : Nat) - 1) := by
       have h3 : ((p : Int) * ((z.natAbs / p : Nat) : Int)) = ((p * (z.natAbs / p) : Nat) : Int) := by rw [Int.natCast_mul]
       have h4 : (p : Int) * (-((z.natAbs / p : Nat) : Int) - 1) = -((p : Int) * ((z.natAbs / p : Nat) : Int)) - p := by grind
       rw [h4, h3]
       generalize p * (z.natAbs / p) = PQ at hdm ⊢
       generalize z.natAbs % p = r at hdm hm ⊢
       omega
     have h5 : z % (p : Int) = (((p - z.natAbs % p : Nat) : Int) + (p : Int) * (-(z.natAbs / p : Nat) - 1)) % (p : Int) := congrArg (· % (p : Int)) h2
     rw [Int.add_mul_emod_self_left] at h5
     rw [h5]
     generalize z.natAbs % p = r at hm h0 ⊢
     exact Int.emod_eq_of_lt (by omega) (by omega)
   rw [h1, Int.toNat_natCast]
 rw [e2, integer_DivMod.j0, if_pos rfl]
 have e3 : integer_one.f = some [1] := by kernel_rfl
 have e4 : toL 1 = [1] := toL_one (by decide) (by decide)
 rw [e3, Option.bind_some, ← e4, add_f (by omega) (by rw [e4]; simp) (by rw [e4]; simp; omega), Option.bind_some, ← toL_one hp hp2, sub_f (by rw [toL_one hp hp2]; simp) (by have := hr1 _ (Nat.lt_trans hm hp2); omega) (by rw [toL_one hp hp2]; simp; omega), if_neg (by omega), Option.bind_some]
 have hq1 : (toL (z.natAbs / p + 1)).length ≤ 901 := len_succ hq
 obtain ⟨x, hx⟩ := imake_f (true != false) (z.natAbs / p + 1) K (by omega) (by omega)
 obtain ⟨y, hy⟩ := imake_f false (p - z.natAbs % p) K (by have := hr1 (p - z.natAbs % p) (by omega); omega) (by omega)
 rw [hx, Option.bind_some]
 simp only
 rw [hy, Option.bind_some, e1]
 exact ⟨_, _, _, rfl⟩
theorem iof_f (p : Nat) (hp : 0 < p) (hp2 : p < 65536) (K : Nat) (hK : 5000 ≤ K) : integer_Of.f K (wrap64 (p : Int)) = some (false, [(p : Int)]) := by
 unfold integer_Of.f
 rw [w64N (z := (p : Int)) (by omega) (by omega), if_neg (by omega), u64w (z := (p : Int)) (by omega) (by omega), of_f (by omega) (by omega), Option.bind_some]
 have h1 : toL p = [(p : Int)] := toL_one hp (by omega)
 unfold integer_Make.f
 rw [make_f (limbs_toL p) (by rw [h1]; simp) (by rw [h1]; simp; omega), val_toL, Option.bind_some, if_neg (by decide), Option.bind_some, h1]
theorem red_l {zs : List Int} (p : Nat) (hp : 0 < p) (hp2 : p < 65536) (hz : ∀ z ∈ zs, zlen z ≤ 900) (hl : zs.length ≤ 1000) : ∀ (m i K : Nat) (out : List Int), zs.length - i = m → i ≤ zs.length → out.length = zs.length → out.take i = (zs.take i).map (· % (p : Int)) → m + 10000 ≤ K →
   modp_Reduce.l0 K out (zs.map mkZ) (zs.length : Int) (i : Int) false [(p : Int)] = some (trimL (zs.map (· % (p : Int)))) := by
 intro m
 induction m with
 | zero =>
   intro i K out hm hi hl2 ho hK
   obtain rfl : i = zs.length := by omega
   obtain ⟨K, rfl⟩ : ∃ k, K = k + 1 := ⟨K - 1, by omega⟩
   rw [List.take_of_length_le (by omega), List.take_length] at ho
   rw [modp_Reduce.l0, if_neg (by omega), trim_is _ K out rfl (by omega) (by omega), Option.bind_some, ho]
 | succ m ih =>
   intro i K out hm hi hl2 ho hK
   obtain ⟨K, rfl⟩ : ∃ k, K = k + 1 := ⟨K - 1, by omega⟩
   have hil : i < zs.length := by omega
   have e0 : rd_T56 (zs.map mkZ) (i : Int) = mkZ zs[i] := by simp [rd_T56, List.getD_eq_getElem?_getD, List.getElem?_eq_getElem hil]
   obtain ⟨a, b, c, hd⟩ := idiv_f zs[i] p hp (by omega) (hz _ (List.getElem_mem hil)) K (by omega)
   have hm0 := Int.emod_nonneg zs[i] (show (p : Int) ≠ 0 by omega)
   have hm1 := Int.emod_lt_of_pos zs[i] (show (0 : Int) < p by omega)
   have e1 : wrap64 ((i : Int) + 1) = ((i + 1 : Nat) : Int) := (w64N (by omega) (by omega)).trans (by omega)
   rw [modp_Reduce.l0, if_pos (by omega), if_pos (by omega), if_pos (by rw [List.length_map]; omega), e0, hd, Option.bind_some]
   simp only
   rw [low_f (by omega), if_pos (by omega), Option.bind_some, if_pos (by omega), e1]
   clear e1
   have e2 : (((zs[i] % (p : Int)).toNat : Nat) : Int) % 4294967296 = zs[i] % (p : Int) := by omega
   simp only [e2, Int.toNat_natCast]
   refine ih (i + 1) K (out.set i (zs[i] % (p : Int))) (by omega) (by omega) (by rw [List.length_set]; exact hl2) ?_ (by omega)
   rw [List.take_succ_eq_append_getElem (by rw [List.length_set]; omega), List.take_succ_eq_append_getElem hil, List.map_append, List.getElem_set_self, List.take_set_of_le (by omega), ho]
   rfl
theorem reduce_f {zs : List Int} (p : Nat) (hp : 0 < p) (hp2 : p < 65536) (hz : ∀ z ∈ zs, zlen z ≤ 900) (hl : zs.length ≤ 1000) (K : Nat) (hK : 20000 ≤ K) : modp_Reduce.f K (zs.map mkZ) (p : Int) = some (normP (p : Int) zs) := by
 unfold modp_Reduce.f normP
 rw [if_pos (by omega), if_pos (by rw [List.length_map]; omega), iof_f p hp hp2 K (by omega), Option.bind_some]
 simp only [List.length_map]
 exact red_l p hp hp2 hz hl zs.length 0 K _ (by omega) (by omega) (by simp) (by simp) (by omega)
end Go.Proofs.YtjbcnppbcomaiaaGreatDoor.Q
