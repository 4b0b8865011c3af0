/-
  ModpPowers: the power by a sum of exponents is the product of both powers, modulo the polynomial; by 0 it is 1, by 1 the rest; and of a product it is the product of the powers (the row, the walk and the plain words), part 8 of 12 (packed by pack.py from texts of this session).
-/
import Derived.Test.YtofbpjpdahcghaaDoorPP1
import Derived.Test.YtofbpjpdahcghaaDoorPP3
import Derived.RangeFuncBox
import Derived.RangeFuncLeaves
import Derived.RangeFuncCalls
import Derived.RangeFuncNested
import Derived.Shelf.Abstract
import Derived.Shelf.RegionOpen
import Derived.OwnWalkIn
import Derived.TacticsInMore
import Derived.LoopNIn
import Derived.LoopIn
import Derived.Laws.EntriesVeiled
set_option maxRecDepth 100000
set_option maxHeartbeats 8000000
set_option linter.unusedVariables false
namespace Go.Proofs.YtofbpjpdahcghaaDoor.Q
open Go.RowKit Go.Shelf Go.Proofs.YtofbpjpdahcghaaDoorW.PrintWords Go.Proofs.YtofbpjpdahcghaaDoorW.PrintLast Go.Proofs.YtofbpjpdahcghaaDoorW.PrintMore
set_option linter.unusedVariables false
set_option linter.unusedSimpArgs false
attribute [local go_sem] Oper.semAt_some
def StepFn (g : Nat) (gf : Int → Int → Int → Int × Int) : Prop :=
 ∀ x y c (w : World), Calls Tryd.prog g #[.int .u32 x, .int .u32 y, .int .u32 c] w fun e w' => e = .returned (.tuple #[.int .u32 (gf x y c).1, .int .u32 (gf x y c).2]) ∧ Drawn0 w w'
theorem carried1_calls (g : Nat) (hgl : g = 92 ∨ g = 91) (gf : Int → Int → Int → Int × Int) (hg : StepFn g gf) (x y c : Int) (B1 B2 : Nat) (w : World)
   (h1 : w.cell? ⟨B1, 0, none⟩ = some (.func (.func g) #[] #[])) (h2 : Boxed w B2 22 (.int .u32 c)) :
   Calls Tryd.prog 104 #[.int .u32 x, .int .u32 y, .pointer (some ⟨B1, 0, none⟩), .pointer (some ⟨B2, 0, none⟩)] w fun e w' =>
     e = .returned (.int .u32 (gf x y c).1) ∧ ∃ n, w' = (w.drewN n).setCell ⟨B2, 0, none⟩ (.int .u32 (gf x y c).2) := by
 have hc2 := h2.cell
 have hf2 := h2.frozen
 have HG : Hid (StepFn g gf) := hg
 clear hg h2
 rcases hgl with rfl | rfl
 all_goals
   go_enter Tryd.func104, Tryd.ntmps104
   go_wp2_with (first | (refine (HG.out _ _ _ _).mono ?_; rintro e w' ⟨rfl, ⟨nd, rfl⟩⟩))
   go_ret
   exact ⟨rfl, _, rfl⟩
def rowAt (l : List Int) (i : Nat) : Int := rd l (i : Int)
theorem at_same (A0 : Option Addr) (c0 : Nat) (l0 : List Int) (i : Nat) (w : World) (hr0 : Kd.C (Kd.int .u32) w A0 l0.length l0) :
   Calls Tryd.prog 58 #[.slice A0 l0.length c0, .int .i64 i] w fun e w' => e = .returned (.int .u32 (if i < l0.length then rowAt l0 i else 0)) ∧ w = w' := by
 have HR0 := am hr0
 clear hr0
 have h0 : decide ((i : Int) < 0) = false := by simp
 by_cases h : i < l0.length
 case neg =>
   have h1 : decide ((l0.length : Int) ≤ (i : Int)) = true := by simp; omega
   have h1' : decide (l0.length ≤ i) = true := by simp; omega
   rw [if_neg h]
   clear h
   go_enter Tryd.func58, Tryd.ntmps58
   go_wp2
   go_ret
   exact ⟨rfl, rfl⟩
 have h1 : decide ((l0.length : Int) ≤ (i : Int)) = false := by simp; omega
 have h1' : decide (l0.length ≤ i) = false := by simp; omega
 obtain ⟨ad, e1, hx⟩ := Kd.at_int HR0.out (i : Int) (by omega) (by omega)
 cases e1
 rw [if_pos h]
 have hx' : w.cell? (ad.add i) = some (.int .u32 (rd l0 i)) := by simpa using hx
 clear hx
 go_enter Tryd.func58, Tryd.ntmps58
 go_wp2
 go_ret
 exact ⟨rfl, rfl⟩
theorem at_row (A0 : Option Addr) (c0 : Nat) (l0 : List Int) (i : Nat) (w : World) (hr0 : Kd.C (Kd.int .u32) w A0 l0.length l0) :
   Calls Tryd.prog 58 #[.slice A0 l0.length c0, .int .i64 i] w fun e w' => e = .returned (.int .u32 (rowAt l0 i)) ∧ w = w' := by
 refine (at_same A0 c0 l0 i w hr0).mono ?_
 rintro e w' ⟨he, hw⟩
 refine ⟨?_, hw⟩
 rw [he]
 by_cases h : i < l0.length
 · rw [if_pos h]
 rw [if_neg h]
 have : rowAt l0 i = 0 := by simp only [rowAt, rd]; simp; rw [List.getElem?_eq_none (by omega)]; rfl
 rw [this]
def upto {α : Type} (f : Nat → α) (k : Nat) : List α := (List.range k).map f
theorem upto_succ {α : Type} (f : Nat → α) (k : Nat) : upto f (k + 1) = upto f k ++ [f k] := by simp [upto, List.range_succ]
theorem upto_length {α : Type} (f : Nat → α) (k : Nat) : (upto f k).length = k := by simp [upto]
def Keeps3 (n₀ Ba : Nat) (W W' : World) : Prop := Below n₀ W W' ∧ ∀ k, Ba ≤ k → k < Ba + 3 → W'.heap[k]? = W.heap[k]?
theorem Keeps3.refl (n₀ Ba : Nat) (W : World) : Keeps3 n₀ Ba W W := ⟨Below.refl _ _, fun _ _ _ => rfl⟩
theorem Keeps3.trans {n₀ Ba : Nat} {A B C : World} (h : Keeps3 n₀ Ba A B) (k : Keeps3 n₀ Ba B C) : Keeps3 n₀ Ba A C := ⟨h.1.trans k.1, fun i h1 h2 => (k.2 i h1 h2).trans (h.2 i h1 h2)⟩
theorem Keeps3.drew (n₀ Ba : Nat) (W : World) : Keeps3 n₀ Ba W W.drew := ⟨(Below.refl _ _).drew, fun _ _ _ => rfl⟩
def ToldP (J Jx : List (Int × Int) → World → Prop) (n₀ Ba : Nat) (xs : List (Int × Int)) (W : World) (b : Bool) (W' : World) : Prop :=
 (b = true ∧ J xs W' ∧ Keeps3 n₀ Ba W W') ∨ (b = false ∧ Jx xs W')
theorem pairs1_in (l Ba n₀ : Nat) (n : Nat) (hn : n ≤ 70368744177664) (A0 : Option Addr) (c0 : Nat) (l0 : List Int) (A1 : Option Addr) (c1 : Nat) (l1 : List Int) (J Jx : List (Int × Int) → World → Prop) (W : World)
   (hJd : ∀ xs X, J xs X → J xs X.drew)
   (hY : ∀ pre x X, J pre X → pre.length < n → YieldAt Fence.wide 2 Tryd.prog l #[.int .u32 x.1, .int .u32 x.2] X fun e X' =>
     (e = .returned (.bool true) ∧ J (pre ++ [x]) X' ∧ Keeps3 n₀ Ba X X') ∨ (e = .returned (.bool false) ∧ Jx (pre ++ [x]) X'))
   (hca : W.cell? ⟨Ba, 0, none⟩ = some (.slice A0 l0.length c0)) (hcb : W.cell? ⟨Ba + 1, 0, none⟩ = some (.slice A1 l1.length c1)) (hcn : W.cell? ⟨Ba + 2, 0, none⟩ = some (.int .i64 n))
   (w0 : World) (hr0 : Kd.C (Kd.int .u32) w0 A0 l0.length l0) (hr1 : Kd.C (Kd.int .u32) w0 A1 l1.length l1) (hw0 : w0.heap.size ≤ n₀) (hbW : Below w0.heap.size w0 W) (h0 : J [] W) :
   CallsIn Fence.wide 3 Tryd.prog 105 #[.func (.yield l) #[] #[], .pointer (some ⟨Ba + 2, 0, none⟩), .pointer (some ⟨Ba, 0, none⟩), .pointer (some ⟨Ba + 1, 0, none⟩)] W fun e W' => (∃ v, e = .returned v) ∧
     ((∃ ys, ys = upto (fun i => (rowAt l0 i, rowAt l1 i)) n ∧ J ys W') ∨ (∃ pre, (∃ k, k ≤ n ∧ pre = upto (fun i => (rowAt l0 i, rowAt l1 i)) k) ∧ Jx pre W')) := by
 have HY : ∀ pre x X, J pre X → pre.length < n → YieldAt Fence.wide 2 Tryd.prog l #[.int .u32 x.1, .int .u32 x.2] X fun e X' => ∃ b, e = .returned (.bool b) ∧ ToldP J Jx n₀ Ba (pre ++ [x]) X b X' := by
   intro pre x X hJ hl
   obtain ⟨fn, tmps, assign, body, hy, hR⟩ := hY pre x X hJ hl
   refine ⟨fn, tmps, assign, body, hy, hR.mono ?_⟩
   rintro e X' (⟨rfl, h1, h2⟩ | ⟨rfl, h1⟩)
   · exact ⟨true, rfl, .inl ⟨rfl, h1, h2⟩⟩
   · exact ⟨false, rfl, .inr ⟨rfl, h1⟩⟩
 clear hY
 have HY' := am HY
 clear HY
 have HR0 := am hr0
 have HR1 := am hr1
 have HJD := am hJd
 clear hr0 hr1 hJd
 have HBW := am hbW
 clear hbW
 refine callsIn_of_wp Tryd.func105 rfl trivial ?_ rfl
 simp only [Tryd.ntmps105, List.size_toArray, List.length_cons, List.length_nil, Nat.reduceAdd, Nat.reduceSub, Array.replicate_succ, Array.replicate_zero, List.push_toArray, List.append_toArray, List.nil_append, List.cons_append]
 gi_wp2
 gi_loopw [7] (fun i wr => ∃ k : Nat, k ≤ n ∧ i = .int .i64 k ∧ Aside0 (J (upto (fun i => (rowAt l0 i, rowAt l1 i)) k) wr) ∧ Aside0 (Keeps3 n₀ Ba W wr))
   (fun i _ => n - (intOf i).toNat)
 case atStart => exact ⟨0, Nat.zero_le _, rfl, ⟨h0⟩, ⟨Keeps3.refl _ _ _⟩⟩
 obtain ⟨k, hk, rfl, hJs, HNX⟩ := hrel
 clear h0
 by_cases hlt : k < n
 case neg =>
   obtain rfl : k = n := by omega
   gi_wp2
   go_end0
   exact ⟨⟨_, rfl⟩, .inl ⟨_, rfl, hJs.out⟩⟩
 have hcn' : wr.cell? ⟨Ba + 2, 0, none⟩ = some (.int .i64 n) := (World.cell?_of_block (HNX.out.2 (Ba + 2) (by omega) (by omega))).trans hcn
 have hca' : wr.cell? ⟨Ba, 0, none⟩ = some (.slice A0 l0.length c0) := (World.cell?_of_block (HNX.out.2 Ba (by omega) (by omega))).trans hca
 have hcb' : wr.cell? ⟨Ba + 1, 0, none⟩ = some (.slice A1 l1.length c1) := (World.cell?_of_block (HNX.out.2 (Ba + 1) (by omega) (by omega))).trans hcb
 have hB' := am (HBW.out.trans (HNX.out.1.mono hw0))
 clear hcn hca hcb
 have hJd := HJD.out _ _ hJs.out
 obtain ⟨fn, tmps, assign, body, hy, hR⟩ := HY'.out _ (rowAt l0 k, rowAt l1 k) _ hJd (by rw [upto_length]; exact hlt)
 clear hJd
 dsimp only at hy
 have HRR := am hR
 clear hR
 have hmx : Tryd.prog.follows .mixedOrders = true := by kernel_rfl
 gi_wp2
 gi_region_with_o (first | (refine ⟨trivial, ?_⟩; gi_at_call 58; (with_reducible refine (callsIn_wide.2 (at_row A0 c0 l0 k _ (Kd.C_below HR0.out hB'.out.drew))).mono ?_); rintro e w' ⟨rfl, rfl⟩) | (refine ⟨trivial, ?_⟩; gi_at_call 58; (with_reducible refine (callsIn_wide.2 (at_row A1 c1 l1 k _ (Kd.C_below HR1.out hB'.out.drew))).mono ?_); rintro e w' ⟨rfl, rfl⟩) | ((with_reducible refine HRR.out.mono ?_); rintro e X' ⟨b, rfl, ht⟩; have HT := am ht; clear ht))
 all_goals
   cases b with
   | true =>
     have ht := HT.out
     rcases ht with ⟨_, hJ3, hk3⟩ | ⟨hb, _⟩
     · have HJ3 := am hJ3
       have HK3 := am (HNX.out.trans ((Keeps3.drew _ _ _).trans hk3))
       clear hJ3 hk3 hJs HT
       gi_wp2
       go_roundw
       case rel => exact ⟨k + 1, by omega, by go_num, ⟨by rw [upto_succ]; exact HJ3.out⟩, HK3⟩
       case measure => simp [intOf]; omega
     · cases hb
   | false =>
     have ht := HT.out
     rcases ht with ⟨hb, _⟩ | ⟨_, hJx3⟩
     · cases hb
     · have HJ3 := am hJx3
       clear hJx3 hJs HT
       gi_wp2
       refine bodyPost_ret (results_none rfl _ _ _) rfl ?_
       exact ⟨⟨_, rfl⟩, .inr ⟨_, ⟨k + 1, by omega, (upto_succ _ _).symm⟩, HJ3.out⟩⟩
def outOf (gf : Int → Int → Int → Int × Int) (ps : List (Int × Int)) : List Int × Int := ps.foldl (fun s p => (s.1 ++ [(gf p.1 p.2 s.2).1], (gf p.1 p.2 s.2).2)) ([], 0)
theorem outOf_snoc (gf : Int → Int → Int → Int × Int) (ps : List (Int × Int)) (p : Int × Int) : outOf gf (ps ++ [p]) = ((outOf gf ps).1 ++ [(gf p.1 p.2 (outOf gf ps).2).1], (gf p.1 p.2 (outOf gf ps).2).2) := by simp [outOf]
theorem outOf_length (gf : Int → Int → Int → Int × Int) (ps : List (Int × Int)) : (outOf gf ps).1.length = ps.length := by
 have h : ∀ (ps : List (Int × Int)) (s : List Int × Int), (ps.foldl (fun s p => (s.1 ++ [(gf p.1 p.2 s.2).1], (gf p.1 p.2 s.2).2)) s).1.length = s.1.length + ps.length := by
   intro ps
   induction ps with
   | nil => intro s; simp
   | cons p ps ih => intro s; rw [List.foldl_cons, ih]; simp; omega
 have := h ps ([], 0)
 simpa [outOf] using this
theorem box_kept {X Y : World} {row : Option Nat} {B : Nat} {t : TypeId} {v : Value} (h : Boxed X B t v) (hg : X.grownBy Y row) (hr : ∀ r, row = some r → ∃ o : Obj, X.heap[r]? = some o ∧ o.isCells = false) : Boxed Y B t v :=
 h.kept hg (fun e' => by obtain ⟨o, ho, hc⟩ := hr B e'.symm; rw [show X.heap[B]? = _ from h] at ho; cases ho; cases hc)
theorem row_kept {X Y : World} {row : Option Nat} {base e size k : Nat} {v : Value} {xs : List Value} (h : X.ownsRow base e size v k xs) (hg : X.grownBy Y row) (hr : ∀ r, row = some r → ∃ o : Obj, X.heap[r]? = some o ∧ o.isCells = false) : Y.ownsRow base e size v k xs := by
 refine h.kept hg ?_
 rcases h.2 with ⟨rfl, _⟩ | ⟨g, cap, cur, rfl, _, hgb, _⟩
 · exact .inl rfl
 · refine .inr fun e' => ?_
   obtain ⟨o, ho, hc⟩ := hr g (by simpa [Value.ownBlock] using e'.symm)
   rw [hgb] at ho; cases ho; cases hc
theorem row_not {W : World} {base e size k B : Nat} {v : Value} {xs : List Value} (h : W.ownsRow base e size v k xs) (hB : B < base) : some B ≠ v.ownBlock := fun e' => by
 have := (h.lt B e'.symm).1
 omega
structure AllInv (n₀ Bo g : Nat) (gf : Int → Int → Int → Int × Int) (pre : List (Int × Int)) (v : Value) (X : World) : Prop where
 out : Boxed X (Bo) 23 v
 row : X.ownsRow (n₀ + 2) 22 1 v pre.length ((outOf gf pre).1.map (Value.int .u32))
 c : Boxed X (n₀ + 1) 22 (.int .u32 (outOf gf pre).2)
 s : Boxed X n₀ 110 (.func (.func g) #[] #[])
 d : Boxed X (n₀ + 2) 121 (.func (.func 104) #[] #[.pointer (some ⟨n₀, 0, none⟩), .pointer (some ⟨n₀ + 1, 0, none⟩)])
theorem AllInv.kept {n₀ Bo g : Nat} {gf : Int → Int → Int → Int × Int} {pre : List (Int × Int)} {v : Value} {X Y : World} {row : Option Nat} (h : AllInv n₀ Bo g gf pre v X) (hg : X.grownBy Y row)
   (hr : ∀ r, row = some r → ∃ o : Obj, X.heap[r]? = some o ∧ o.isCells = false) : AllInv n₀ Bo g gf pre v Y :=
 ⟨box_kept h.out hg hr, row_kept h.row hg hr, box_kept h.c hg hr, box_kept h.s hg hr, box_kept h.d hg hr⟩
theorem grownBy_drewN (w : World) (n : Nat) (row : Option Nat) : w.grownBy (w.drewN n) row := ⟨rfl, rfl, rfl, Nat.le_refl _, fun _ _ _ => rfl⟩
theorem AllInv.step {n₀ Bo g : Nat} {gf : Int → Int → Int → Int × Int} {pre : List (Int × Int)} {v v' : Value} {X w1 w2 : World} {tmp : Obj} {nd : Nat} (x : Int × Int) (hBo : n₀ + 2 < Bo) (h : AllInv n₀ Bo g gf pre v X)
   (hw1 : w1 = (X.drewN nd).setCell ⟨n₀ + 1, 0, none⟩ (.int .u32 (gf x.1 x.2 (outOf gf pre).2).2))
   (hown : w2.ownsRow (n₀ + 2) 22 1 v' (pre.length + 1) ((outOf gf pre).1.map (Value.int .u32) ++ [.int .u32 (gf x.1 x.2 (outOf gf pre).2).1]))
   (hgrow : (w1.alloc tmp).grownBy w2 v.ownBlock) :
   Boxed w2 (Bo) 23 v ∧ AllInv n₀ Bo g gf (pre ++ [x]) v' (w2.setCell ⟨Bo, 0, none⟩ v') ∧ KeepsOthers X (w2.setCell ⟨Bo, 0, none⟩ v') ∧ Below n₀ X (w2.setCell ⟨Bo, 0, none⟩ v') ∧ ∀ B t u, Boxed X B t u → t ≠ 22 → B ≠ Bo → Boxed (w2.setCell ⟨Bo, 0, none⟩ v') B t u := by
 have g1 : X.grownBy (X.drewN nd) none := grownBy_drewN X nd none
 have g2 : (X.drewN nd).grownBy w1 (some (n₀ + 1)) := by rw [hw1]; exact grownBy_setCell' _ _ _
 have g3 : w1.grownBy (w1.alloc tmp) none := World.grownBy_alloc w1 tmp none
 have hX := h.kept g1 (fun r e => by cases e)
 have hXc : Boxed w1 (n₀ + 1) 22 (.int .u32 (gf x.1 x.2 (outOf gf pre).2).2) := by rw [hw1]; exact hX.c.set _
 have row1 : w1.ownsRow (n₀ + 2) 22 1 v pre.length ((outOf gf pre).1.map (Value.int .u32)) := hX.row.kept g2 (.inr (fun e => row_not hX.row (by omega) e.symm))
 have out1 : Boxed w1 (Bo) 23 v := hX.out.kept g2 (by simp; omega)
 have s1 : Boxed w1 n₀ 110 _ := hX.s.kept g2 (by simp)
 have d1 : Boxed w1 (n₀ + 2) 121 _ := hX.d.kept g2 (by simp)
 have row1' := row1.alloc tmp
 have out2 : Boxed w2 (Bo) 23 v := (out1.alloc tmp).kept hgrow ((out1.alloc tmp).not_row (by decide) row1')
 have s2 : Boxed w2 n₀ 110 _ := (s1.alloc tmp).kept hgrow (row_not row1' (by omega))
 have c2 : Boxed w2 (n₀ + 1) 22 _ := (hXc.alloc tmp).kept hgrow (row_not row1' (by omega))
 have d2 : Boxed w2 (n₀ + 2) 121 _ := (d1.alloc tmp).kept hgrow ((d1.alloc tmp).not_row (by decide) row1')
 have g4 := grownBy_setCell' w2 (Bo) v'
 refine ⟨out2, ⟨out2.set v', ?_, ?_, s2.kept g4 (by simp; omega), d2.kept g4 (by simp; omega)⟩, ?_, ?_, ?_⟩
 · have := hown.kept g4 (.inr (fun e => (out2.not_row (by decide) hown) e.symm))
   rw [outOf_snoc]
   simpa using this
 · rw [outOf_snoc]
   exact c2.kept g4 (by simp; omega)
 · have k1 : KeepsOthers X (X.drewN nd) := ⟨Nat.le_refl _, fun _ _ hh _ => hh⟩
   have k2 : KeepsOthers (X.drewN nd) w1 := by rw [hw1]; exact KeepsOthers.setCell _ _ _
   refine (((k1.trans k2).trans (KeepsOthers.alloc w1 tmp)).trans (KeepsOthers.of_grownBy hgrow fun j o ej hj => ?_)).trans (KeepsOthers.setCell _ _ _)
   rcases row1'.2 with ⟨rfl, _⟩ | ⟨g', cap, cur, rfl, _, hgb, _⟩
   · simp [Value.ownBlock] at ej
   · obtain rfl : g' = j := by simpa [Value.ownBlock] using ej
     rw [hgb] at hj; cases hj; rfl
 · have hs : n₀ ≤ X.heap.size := by have := h.s.lt; omega
   have hs1 : n₀ ≤ w1.heap.size := by have := s1.lt; omega
   have b1 : Below n₀ X w1 := by rw [hw1]; exact Below.setCell (p := ⟨n₀ + 1, 0, none⟩) (show Below n₀ X (X.drewN nd) from ⟨rfl, rfl, rfl, Nat.le_refl _, fun _ _ => rfl⟩) (by simp) _
   refine Below.setCell (p := ⟨Bo, 0, none⟩) ((b1.alloc hs1 tmp).grown hgrow (by simp; omega) fun j ej => ?_) (by simp; omega) _
   have := (row1'.lt j ej).1
   omega
 · intro B t u hB ht hne
   have hB1 := hB.kept g1 (by simp)
   have hBc : B ≠ n₀ + 1 := by
     rintro rfl
     have h1 := (show X.heap[n₀ + 1]? = _ from hB).symm.trans (show X.heap[n₀ + 1]? = _ from h.c)
     simp at h1
     exact ht h1.2
   have hB2 : Boxed w1 B t u := hB1.kept g2 (by simp; omega)
   have hB3 : Boxed w2 B t u := (hB2.alloc tmp).kept hgrow ((hB2.alloc tmp).not_row ht row1')
   exact hB3.kept g4 (by simp; omega)
def appB (ats : Array TypeId) (ty : TypeId) (args : Array Value) : Sem Value := Builtin.append_ ats ty args
theorem append_appB (ats : Array TypeId) (ty : TypeId) (args : Array Value) : Builtin.append_ ats ty args = appB ats ty args := rfl
theorem run_appB {P : Program} {ats : Array TypeId} {ty : TypeId} {args : Array Value} {w w' : World} {v : Value} (h : (Builtin.append_ ats ty args).run P w = .ok v w') : (appB ats ty args).run P w = .ok v w' := h
theorem carried_in (m g : Nat) (w : World) : CallsIn Fence.wide m Tryd.prog 100 #[.func (.func g) #[] #[]] w fun e w' =>
   e = .returned (.func (.func 104) #[] #[.pointer (some ⟨w.heap.size, 0, none⟩), .pointer (some ⟨w.heap.size + 1, 0, none⟩)]) ∧ (w.alloc (.cells #[.func (.func g) #[] #[]] 110)).alloc (.cells #[.int .u32 0] 22) = w' := by
 refine callsIn_of_wp Tryd.func100 rfl trivial ?_ rfl
 simp only [Tryd.ntmps100, List.size_toArray, List.length_cons, List.length_nil, Nat.reduceAdd, Nat.reduceSub, Array.replicate_succ, Array.replicate_zero, List.push_toArray, List.append_toArray, List.nil_append, List.cons_append]
 gi_wp2
 go_ret
 exact ⟨rfl, rfl⟩
theorem pairs_in (a0 a1 : Option Addr) (n0 n1 c0 c1 : Nat) (n : Int) (m : Nat) (w : World) : CallsIn Fence.wide m Tryd.prog 101 #[.slice a0 n0 c0, .slice a1 n1 c1, .int .i64 n] w fun e w' =>
   e = .returned (.func (.func 105) #[] #[.pointer (some ⟨w.heap.size + 2, 0, none⟩), .pointer (some ⟨w.heap.size, 0, none⟩), .pointer (some ⟨w.heap.size + 1, 0, none⟩)]) ∧
     ((w.alloc (.cells #[.slice a0 n0 c0] 23)).alloc (.cells #[.slice a1 n1 c1] 23)).alloc (.cells #[.int .i64 n] 3) = w' := by
 refine callsIn_of_wp Tryd.func101 rfl trivial ?_ rfl
 simp only [Tryd.ntmps101, List.size_toArray, List.length_cons, List.length_nil, Nat.reduceAdd, Nat.reduceSub, Array.replicate_succ, Array.replicate_zero, List.push_toArray, List.append_toArray, List.nil_append, List.cons_append]
 gi_wp2
 go_ret
 exact ⟨rfl, rfl⟩
theorem AllInv.push {n₀ Bo g : Nat} {gf : Int → Int → Int → Int × Int} {pre : List (Int × Int)} {v : Value} {X w2 : World} {nd : Nat} (x : Int × Int) (hBo : n₀ + 2 < Bo) (hpl : pre.length ≤ 35184372088830) (h : AllInv n₀ Bo g gf pre v X)
   (hw : w2 = (X.drewN nd).setCell ⟨n₀ + 1, 0, none⟩ (.int .u32 (gf x.1 x.2 (outOf gf pre).2).2)) :
   Boxed w2 Bo 23 v ∧ ∃ g' cap w3, (appB #[23, 23] 23 #[v, .slice (some ⟨w2.heap.size, 0, none⟩) 1 1]).run Tryd.prog (w2.alloc (.cells #[.int .u32 (gf x.1 x.2 (outOf gf pre).2).1] 22)) = .ok (.slice (some ⟨g', 0, none⟩) (pre.length + 1) cap) w3 ∧
     Boxed w3 Bo 23 v ∧ Aside0 (AllInv n₀ Bo g gf (pre ++ [x]) (.slice (some ⟨g', 0, none⟩) (pre.length + 1) cap) (w3.setCell ⟨Bo, 0, none⟩ (.slice (some ⟨g', 0, none⟩) (pre.length + 1) cap)) ∧
       KeepsOthers X (w3.setCell ⟨Bo, 0, none⟩ (.slice (some ⟨g', 0, none⟩) (pre.length + 1) cap)) ∧ Below n₀ X (w3.setCell ⟨Bo, 0, none⟩ (.slice (some ⟨g', 0, none⟩) (pre.length + 1) cap)) ∧ ∀ B t u, Boxed X B t u → t ≠ 22 → B ≠ Bo → Boxed (w3.setCell ⟨Bo, 0, none⟩ (.slice (some ⟨g', 0, none⟩) (pre.length + 1) cap)) B t u) := by
 obtain ⟨i0, hi, hz0, hz1, hz2⟩ := info_parts info22
 have g1 : X.grownBy (X.drewN nd) none := grownBy_drewN X nd none
 have g2 : (X.drewN nd).grownBy w2 (some (n₀ + 1)) := by rw [hw]; exact grownBy_setCell' _ _ _
 have hX := h.kept g1 (fun r e => by cases e)
 have row1 : w2.ownsRow (n₀ + 2) 22 1 v pre.length ((outOf gf pre).1.map (Value.int .u32)) := hX.row.kept g2 (.inr (fun e => row_not hX.row (by omega) e.symm))
 have out1 : Boxed w2 Bo 23 v := hX.out.kept g2 (by simp; omega)
 have hlt := out1.lt
 obtain ⟨v', w3, hrun, r1, r2, _⟩ := run_append_own (P := Tryd.prog) (w2.alloc (.cells #[.int .u32 (gf x.1 x.2 (outOf gf pre).2).1] 22)) (n₀ + 2) 23 23 22 i0 (.int .u32 0) 1 4 Tryd.underlying23 hi hz0 hz1 hz2 rfl (by decide) v pre.length _ (row1.alloc _) ⟨w2.heap.size, 0, none⟩ 1 1 [.int .u32 (gf x.1 x.2 (outOf gf pre).2).1] rfl (cell_one_new _ _ _) (by simp [Value.oneCell']) (by unfold maxLen; omega) (by omega) (by simp; omega)
 obtain ⟨g', cap', rfl⟩ := ownsRow_succ r1
 obtain ⟨a1, a2, a3, a4, a5⟩ := h.step x hBo hw r1 r2
 exact ⟨out1, g', cap', w3, run_appB hrun, a1, ⟨a2, a3, a4, a5⟩⟩
theorem pairs_stops (Ba n₀ n : Nat) (hn : n ≤ 70368744177664) (A0 : Option Addr) (c0 : Nat) (l0 : List Int) (A1 : Option Addr) (c1 : Nat) (l1 : List Int) (W : World)
   (hlt : Ba + 2 < W.heap.size) (hca : W.cell? ⟨Ba, 0, none⟩ = some (.slice A0 l0.length c0)) (hcb : W.cell? ⟨Ba + 1, 0, none⟩ = some (.slice A1 l1.length c1)) (hcn : W.cell? ⟨Ba + 2, 0, none⟩ = some (.int .i64 n))
   (w0 : World) (hr0 : Kd.C (Kd.int .u32) w0 A0 l0.length l0) (hr1 : Kd.C (Kd.int .u32) w0 A1 l1.length l1) (hw0 : w0.heap.size ≤ n₀) (hbW : Below w0.heap.size w0 W) :
   SeqStopsK Fence.wide 3 Tryd.prog 105 #[.pointer (some ⟨Ba + 2, 0, none⟩), .pointer (some ⟨Ba, 0, none⟩), .pointer (some ⟨Ba + 1, 0, none⟩)] (fun x : Int × Int => #[Value.int .u32 x.1, Value.int .u32 x.2]) (Keeps3 n₀ Ba)
     (fun ys => ys = upto (fun i => (rowAt l0 i, rowAt l1 i)) n) (fun pre => ∃ k, k ≤ n ∧ pre = upto (fun i => (rowAt l0 i, rowAt l1 i)) k) n W := fun l J Jx X hX hJ _ hY h0 =>
 pairs1_in l Ba n₀ n hn A0 c0 l0 A1 c1 l1 J Jx X (fun xs Y h => hJ xs Y _ none h (grownBy_drewN Y 1 none) (fun r e => by cases e)) hY
   ((hX.cell (p := ⟨Ba, 0, none⟩) (by simp; omega)).trans hca) ((hX.cell (p := ⟨Ba + 1, 0, none⟩) (by simp; omega)).trans hcb) ((hX.cell (p := ⟨Ba + 2, 0, none⟩) (by simp; omega)).trans hcn)
   w0 hr0 hr1 hw0 (hbW.trans (hX.mono hbW.size)) h0
theorem R_putObj_ {α : Type} {d : Kd α} {e base : Nat} {w : World} {v : Value} {xs : List α} (h : d.R e w base (fun _ => True) v xs) {D : Nat} {o : Obj} (o' : Obj) (hD : w.heap[D]? = some o) (ho : o.isCells = false) : d.R e (w.putObj D o') base (fun _ => True) v xs :=
 Kd.R_mono (Kd.R_move (Kd.R_bound h) (fun k hk => World.putObj_heap_other (fun e => by
   obtain ⟨_, _, _, q, _, cells, hc⟩ := hk
   subst e
   rw [hc] at hD
   cases hD
   cases ho))) (fun _ _ => trivial)
theorem boxes_same {X Z : World} {B t1 t2 t3 : Nat} {u1 u2 u3 : Value} (h1 : Boxed X B t1 u1) (h2 : Boxed X (B + 1) t2 u2) (h3 : Boxed X (B + 2) t3 u3) (k1 : Boxed Z B t1 u1) (k2 : Boxed Z (B + 1) t2 u2) (k3 : Boxed Z (B + 2) t3 u3) :
   ∀ k, B ≤ k → k < B + 3 → Z.heap[k]? = X.heap[k]? := by
 intro k hk hk'
 rcases (show k = B ∨ k = B + 1 ∨ k = B + 2 by omega) with rfl | rfl | rfl
 · exact (show _ = _ from k1).trans (show _ = _ from h1).symm
 · exact (show _ = _ from k2).trans (show _ = _ from h2).symm
 · exact (show _ = _ from k3).trans (show _ = _ from h3).symm
attribute [local go_sem ↓] append_appB
theorem all_in (g : Nat) (hgl : g = 92 ∨ g = 91) (gf : Int → Int → Int → Int × Int) (hg : StepFn g gf) (A0 : Option Addr) (c0 : Nat) (l0 : List Int) (A1 : Option Addr) (c1 : Nat) (l1 : List Int) (n : Nat) (hn : n ≤ 35184372088831)
   (k : Nat) (r : List Int) (hmk : nat_Make.f k (outOf gf (upto (fun i => (rowAt l0 i, rowAt l1 i)) n)).1 = some r) (w : World)
   (hr0 : Kd.C (Kd.int .u32) w A0 l0.length l0) (hr1 : Kd.C (Kd.int .u32) w A1 l1.length l1) :
   CallsIn Fence.wide 4 Tryd.prog 90 #[.slice A0 l0.length c0, .slice A1 l1.length c1, .int .i64 n, .func (.func g) #[] #[]] w fun e w' => ∃ v0_ : Value, e = .returned (v0_) ∧ Kd.R (Kd.int .u32) 22 w' w.heap.size (fun _ => True) v0_ r ∧ Below w.heap.size w w' := by
 have HG := am hg
 have HR0 := am hr0
 have HR1 := am hr1
 have HMK := am hmk
 have HGL := am hgl
 clear hg hr0 hr1 hmk hgl
 obtain ⟨i0, hi, hz0, hz1, hz2⟩ := info_parts info22
 have HI := am hi
 have HZ0 := am hz0
 have HZ1 := am hz1
 have HZ2 := am hz2
 clear hi hz0 hz1 hz2
 refine callsIn_of_wp_marks Tryd.func90 rfl trivial ?_ rfl
 simp only [Tryd.ntmps90, List.size_toArray, List.length_cons, List.length_nil, Nat.reduceAdd, Nat.reduceSub, Array.replicate_succ, Array.replicate_zero, List.push_toArray, List.append_toArray, List.nil_append, List.cons_append]
 gi_wp2_with (first | (refine ⟨trivial, ?_⟩; gi_at_call 100; (with_reducible refine CallsIn.mono (carried_in _ g _) ?_); rintro e w' ⟨rfl, rfl⟩) | (refine ⟨trivial, ?_⟩; gi_at_call 101; (with_reducible refine CallsIn.mono (pairs_in _ _ _ _ _ _ _ _ _) ?_); rintro e w' ⟨rfl, rfl⟩) | (gi_at_make; refine wpListIn_make_own _ rfl _ _ 23 rfl (w.heap.size + 2) 22 i0 (.int .u32 0) 1 Tryd.underlying23 HI.out HZ0.out HZ1.out .i64 .i64 (n : Int) n rfl rfl rfl ?mk1 ?mk2 ?mk3 ?_; (case mk1 => rw [HZ2.out]; omega); (case mk2 => unfold maxLen; omega); (case mk3 => simp); intro w1 hrow1 hg1; have HROW := am hrow1; have HG1 := am hg1; clear hrow1 hg1))
 have hs1 : w.heap.size + 3 ≤ w1.heap.size := by have := HG1.out.size; simp at this; omega
 have bs : Boxed w1 w.heap.size 110 (.func (.func g) #[] #[]) := (((Boxed.new w 110 (.func (.func g) #[] #[])).alloc _).alloc _).kept HG1.out (by simp)
 have bc : Boxed w1 (w.heap.size + 1) 22 (.int .u32 0) := by
   have h := Boxed.new (w.alloc (.cells #[.func (.func g) #[] #[]] 110)) 22 (.int .u32 0)
   rw [World.size_alloc] at h
   exact (h.alloc _).kept HG1.out (by simp)
 have bd : Boxed w1 (w.heap.size + 2) 121 (.func (.func 104) #[] #[.pointer (some ⟨w.heap.size, 0, none⟩), .pointer (some ⟨w.heap.size + 1, 0, none⟩)]) := by
   have h := Boxed.new ((w.alloc (.cells #[.func (.func g) #[] #[]] 110)).alloc (.cells #[.int .u32 0] 22)) 121 (.func (.func 104) #[] #[.pointer (some ⟨w.heap.size, 0, none⟩), .pointer (some ⟨w.heap.size + 1, 0, none⟩)])
   rw [World.size_alloc, World.size_alloc] at h
   exact h.kept HG1.out (by simp)
 have hbw1 : Below w.heap.size w w1 := ((((Below.refl _ w).alloc (Nat.le_refl _) _).alloc (by simp) _).alloc (by simp; omega) _).grown HG1.out (by simp; omega) (fun _ e => by cases e)
 have HN := am hn
 have hrow : w1.ownsRow (w.heap.size + 2) 22 1 (.slice (some ⟨w.heap.size + 1 + 1 + 1, 0, none⟩) 0 n) 0 [] := by simpa using HROW.out
 have hbL : Below w.heap.size w ((((w1.alloc (.cells #[.slice (some ⟨w.heap.size + 1 + 1 + 1, 0, none⟩) 0 n] 23)).alloc (.cells #[.slice A0 l0.length c0] 23)).alloc (.cells #[.slice A1 l1.length c1] 23)).alloc (.cells #[.int .i64 n] 3)) :=
   (((hbw1.alloc (by omega) _).alloc (by simp; omega) _).alloc (by simp; omega) _).alloc (by simp; omega) _
 have ba : Boxed ((((w1.alloc (.cells #[.slice (some ⟨w.heap.size + 1 + 1 + 1, 0, none⟩) 0 n] 23)).alloc (.cells #[.slice A0 l0.length c0] 23)).alloc (.cells #[.slice A1 l1.length c1] 23)).alloc (.cells #[.int .i64 n] 3)) (w1.heap.size + 1) 23 (.slice A0 l0.length c0) := by
   have h := Boxed.new (w1.alloc (.cells #[.slice (some ⟨w.heap.size + 1 + 1 + 1, 0, none⟩) 0 n] 23)) 23 (.slice A0 l0.length c0)
   rw [World.size_alloc] at h
   exact (h.alloc _).alloc _
 have bb : Boxed ((((w1.alloc (.cells #[.slice (some ⟨w.heap.size + 1 + 1 + 1, 0, none⟩) 0 n] 23)).alloc (.cells #[.slice A0 l0.length c0] 23)).alloc (.cells #[.slice A1 l1.length c1] 23)).alloc (.cells #[.int .i64 n] 3)) (w1.heap.size + 1 + 1) 23 (.slice A1 l1.length c1) := by
   have h := Boxed.new ((w1.alloc (.cells #[.slice (some ⟨w.heap.size + 1 + 1 + 1, 0, none⟩) 0 n] 23)).alloc (.cells #[.slice A0 l0.length c0] 23)) 23 (.slice A1 l1.length c1)
   rw [World.size_alloc, World.size_alloc] at h
   exact h.alloc _
 have bn : Boxed ((((w1.alloc (.cells #[.slice (some ⟨w.heap.size + 1 + 1 + 1, 0, none⟩) 0 n] 23)).alloc (.cells #[.slice A0 l0.length c0] 23)).alloc (.cells #[.slice A1 l1.length c1] 23)).alloc (.cells #[.int .i64 n] 3)) (w1.heap.size + 1 + 2) 3 (.int .i64 n) := by
   have h := Boxed.new (((w1.alloc (.cells #[.slice (some ⟨w.heap.size + 1 + 1 + 1, 0, none⟩) 0 n] 23)).alloc (.cells #[.slice A0 l0.length c0] 23)).alloc (.cells #[.slice A1 l1.length c1] 23)) 3 (.int .i64 n)
   rw [World.size_alloc, World.size_alloc, World.size_alloc] at h
   exact h
 have hI0 : AllInv w.heap.size w1.heap.size g gf [] (.slice (some ⟨w.heap.size + 1 + 1 + 1, 0, none⟩) 0 n) ((((w1.alloc (.cells #[.slice (some ⟨w.heap.size + 1 + 1 + 1, 0, none⟩) 0 n] 23)).alloc (.cells #[.slice A0 l0.length c0] 23)).alloc (.cells #[.slice A1 l1.length c1] 23)).alloc (.cells #[.int .i64 n] 3)) :=
   ⟨(((Boxed.new w1 23 _).alloc _).alloc _).alloc _, (((hrow.alloc _).alloc _).alloc _).alloc _, (((bc.alloc _).alloc _).alloc _).alloc _, (((bs.alloc _).alloc _).alloc _).alloc _, (((bd.alloc _).alloc _).alloc _).alloc _⟩
 obtain ⟨WL, hWL⟩ : ∃ WL, WL = ((((w1.alloc (.cells #[.slice (some ⟨w.heap.size + 1 + 1 + 1, 0, none⟩) 0 n] 23)).alloc (.cells #[.slice A0 l0.length c0] 23)).alloc (.cells #[.slice A1 l1.length c1] 23)).alloc (.cells #[.int .i64 n] 3)) := ⟨_, rfl⟩
 have hWs : WL.heap.size = w1.heap.size + 4 := by rw [hWL]; simp
 rw [← hWL] at ba bb bn hI0 hbL ⊢
 clear hWL bs bc bd hbw1 hrow HROW HG1
 have hts := pairs_stops (w1.heap.size + 1) w.heap.size n (by omega) A0 c0 l0 A1 c1 l1 WL (by omega) ba.cell bb.cell bn.cell w HR0.out HR1.out (Nat.le_refl _) hbL
 refine wpIn_rangeFunc_ownG (F := Fence.wide) rfl (by omega) (gf := 105) (lb := #[.pointer (some ⟨w1.heap.size + 1 + 2, 0, none⟩), .pointer (some ⟨w1.heap.size + 1, 0, none⟩), .pointer (some ⟨w1.heap.size + 1 + 1, 0, none⟩)]) rfl trivial (enters_of Tryd.func105 (by kernel_rfl) rfl)
   hts (fun h k => Keeps3.trans h k)
   (fun W l o o' hl hh _ _ => ⟨(Below.refl _ W).grown (grownBy_putObj' W l o') (by have := (Array.getElem?_eq_some_iff.1 hh).1; omega) (fun k e => by cases e; omega), fun k h1 h2 => (grownBy_putObj' W l o').block k (by have := (Array.getElem?_eq_some_iff.1 hh).1; omega) (by simp; omega)⟩)
   (Below.refl _ _) (fun _ => rfl)
   (fun pre W => ((∃ v, AllInv w.heap.size w1.heap.size g gf pre v W) ∧ Boxed W (w1.heap.size + 1) 23 (.slice A0 l0.length c0) ∧ Boxed W (w1.heap.size + 1 + 1) 23 (.slice A1 l1.length c1) ∧ Boxed W (w1.heap.size + 1 + 2) 3 (.int .i64 n)) ∧ Below w.heap.size w W)
   (fun _ _ _ => False)
   (OwnFrom.and (Own.from (fun s A B row hs hg hr => by obtain ⟨⟨v, hv⟩, h1, h2, h3⟩ := hs; exact ⟨⟨v, hv.kept hg hr⟩, box_kept h1 hg hr, box_kept h2 hg hr, box_kept h3 hg hr⟩) _) (ownFrom_below (Nat.le_refl _) (by omega)))
   (fun _ _ _ _ _ hs _ _ => hs)
   ⟨⟨⟨_, hI0⟩, ba, bb, bn⟩, hbL⟩
   (fun x => { tmps := #[.slice A0 l0.length c0, .slice A1 l1.length c1, .int .i64 n, .func (.func g) #[] #[], undef, undef, undef, undef, .slice none 0 0, .pointer (some ⟨w.heap.size + 1 + 1, 0, none⟩), .pointer (some ⟨w1.heap.size, 0, none⟩), .int .u32 x.1, .int .u32 x.2, .func (.func g) #[] #[],
       .func (.func 104) #[] #[.pointer (some ⟨w.heap.size, 0, none⟩), .pointer (some ⟨w.heap.size + 1, 0, none⟩)], .int .i64 n, .slice (some ⟨w.heap.size + 1 + 1 + 1, 0, none⟩) 0 n, .slice A0 l0.length c0, .slice A1 l1.length c1, .int .i64 n,
       .func (.func 105) #[] #[.pointer (some ⟨w1.heap.size + 1 + 2, 0, none⟩), .pointer (some ⟨w1.heap.size + 1, 0, none⟩), .pointer (some ⟨w1.heap.size + 1 + 1, 0, none⟩)], .int .u32 x.1, .int .u32 x.2, undef, undef, undef, undef, undef, undef, undef, undef, undef], defers := [] }) ?assign ?body ?done ?stop
 case assign =>
   intro l x W K hK
   clear hts hI0 ba bb bn hbL
   gi_wp2
   exact hK
 case body =>
   rintro l pre x W ⟨⟨⟨v, hA⟩, hx1, hx2, hx3⟩, hB⟩ hlt
   have HX1 := am hx1
   have HX2 := am hx2
   have HX3 := am hx3
   clear hx1 hx2 hx3
   clear hts hI0 ba bb bn hbL
   have hmx : Tryd.prog.follows .mixedOrders = true := by kernel_rfl
   have hout := hA.out.cell
   have hd : W.cell? ⟨w.heap.size + 1 + 1, 0, none⟩ = some (.func (.func 104) #[] #[.pointer (some ⟨w.heap.size, 0, none⟩), .pointer (some ⟨w.heap.size + 1, 0, none⟩)]) := hA.d.cell
   have HA := am (hA.kept (grownBy_drewN W 1 none) (fun r e => by cases e))
   have hsc := am (show W.drew.cell? ⟨w.heap.size, 0, none⟩ = some (.func (.func g) #[] #[]) from hA.s.cell)
   have hcc := am (show Boxed W.drew (w.heap.size + 1) 22 (.int .u32 (outOf gf pre).2) from hA.c)
   have HBB := am hB
   have HPL := am (show pre.length ≤ 35184372088830 by omega)
   have HS1 := am hs1
   clear hA hB hlt hn hs1 hWs
   gi_wp2
   gi_region_with_o (first | (refine ⟨trivial, ?_⟩; gi_at_call 104; (with_reducible refine CallsIn.mono (CallsIn.inRound l (callsIn_wide.2 (carried1_calls g HGL.out gf HG.out x.1 x.2 _ _ _ _ hsc.out hcc.out))) ?_); rintro e w2 ⟨rfl, nd, hw2⟩; obtain ⟨hb2, g', cap', w3, hrun, hb3, HF⟩ := HA.out.push x (by have := HS1.out; omega) HPL.out hw2; have hc2 := hb2.cell; have hc2' := (hb2.alloc (.cells #[.int .u32 (gf x.1 x.2 (outOf gf pre).2).1] 22)).cell; have hc3 := hb3.cell; have hf3 := hb3.frozen; clear hw2 hb2 hb3))
   all_goals
     have y1 := HF.out.2.2.2 _ _ _ (show Boxed (W.drewN 1) _ _ _ from HX1.out) (by decide) (by omega)
     have y2 := HF.out.2.2.2 _ _ _ (show Boxed (W.drewN 1) _ _ _ from HX2.out) (by decide) (by omega)
     have y3 := HF.out.2.2.2 _ _ _ (show Boxed (W.drewN 1) _ _ _ from HX3.out) (by decide) (by omega)
     have hbz := (show Below w.heap.size W (W.drewN 1) from (Below.refl _ _).drew).trans HF.out.2.2.1
     exact ⟨((KeepsOthers.drew W).trans HF.out.2.1).from _, ⟨hbz, boxes_same HX1.out HX2.out HX3.out y1 y2 y3⟩, ⟨⟨_, HF.out.1⟩, y1, y2, y3⟩, HBB.out.trans hbz⟩
 case done =>
   rintro D ys W hD rfl ⟨⟨⟨v, hA⟩, _, _, _⟩, hB⟩ hK
   clear hts hI0 ba bb bn hbL
   have hout := hA.out.cell
   have hR : (Kd.int .u32).R 22 W (w.heap.size + 2) (fun _ => True) v (outOf gf (upto (fun i => (rowAt l0 i, rowAt l1 i)) n)).1 := Kd.R_of_own (by rw [outOf_length]; exact hA.row) (fun _ _ => trivial)
   obtain ⟨A', c', hv, hle, hC⟩ := Kd.R_reads hR
   clear hA hR
   have HC' := am hC
   have HLE := am hle
   have HBB := am hB
   have HK' := am hK
   have HD := am hD
   have HWS := am hWs
   have HS1 := am hs1
   clear hC hle hB hK hD hWs hs1 hn
   rw [hv] at hout
   clear hv
   gi_wp2_with (refine ⟨trivial, ?_⟩; gi_at_call 81; (with_reducible refine CallsIn.mono (callsIn_wide.2 (nat_Make.calls k A' c' _ r _ HC'.out HLE.out HMK.out)) ?_); rintro e w4 ⟨v4, rfl, ho4, hb4⟩; have HO4 := am ho4; have HB4 := am hb4; clear ho4 hb4)
   have hDlt : D < W.heap.size := (Array.getElem?_eq_some_iff.1 HK'.out).1
   have hK4 : w4.heap[D]? = some (.deferred (some [])) := (HB4.out.block D hDlt).trans HK'.out
   have hle1 : w.heap.size ≤ W.heap.size := HBB.out.size
   refine ⟨by simp, .inl ⟨_, _, rfl, run_takeDeferred hK4, ?_⟩⟩
   exact ⟨_, results_tmp rfl _ _ _, v4, rfl, R_putObj_ (Kd.R_lower HO4.out hle1) _ hK4 rfl, (HBB.out.trans (HB4.out.mono hle1)).trans (belowK_b (w := w) (Nat.le_refl _) w4 D _ _ (by have := HD.out; have := HWS.out; have := HS1.out; omega) hK4 rfl rfl)⟩
 case stop =>
   rintro D c pre W _ _ h _
   exact h.elim
def addG (x y c : Int) : Int × Int := (bits_Add32.f x y c).getD (0, 0)
def subG (x y c : Int) : Int × Int := (bits_Sub32.f x y c).getD (0, 0)
theorem addG_step : StepFn 91 addG := fun x y c w => bits_Add32.calls x y c _ _ w rfl
theorem subG_step : StepFn 92 subG := fun x y c w => bits_Sub32.calls x y c _ _ w rfl
def allRow (gf : Int → Int → Int → Int × Int) (l0 l1 : List Int) (n : Nat) : List Int := (outOf gf (upto (fun i => (rowAt l0 i, rowAt l1 i)) n)).1
theorem all_calls (g : Nat) (hgl : g = 92 ∨ g = 91) (gf : Int → Int → Int → Int × Int) (hg : StepFn g gf) (A0 : Option Addr) (c0 : Nat) (l0 : List Int) (A1 : Option Addr) (c1 : Nat) (l1 : List Int) (n : Nat) (N : Int) (hN : N = (n : Int)) (hn : n ≤ 35184372088831)
   (k : Nat) (r : List Int) (hmk : nat_Make.f k (allRow gf l0 l1 n) = some r) (w : World)
   (hr0 : Kd.C (Kd.int .u32) w A0 l0.length l0) (hr1 : Kd.C (Kd.int .u32) w A1 l1.length l1) :
   Calls Tryd.prog 90 #[.slice A0 l0.length c0, .slice A1 l1.length c1, .int .i64 N, .func (.func g) #[] #[]] w fun e w' => ∃ v0_ : Value, e = .returned (v0_) ∧ Kd.R (Kd.int .u32) 22 w' w.heap.size (fun _ => True) v0_ r ∧ Below w.heap.size w w' := by
 subst hN
 exact callsIn_wide.1 (all_in g hgl gf hg A0 c0 l0 A1 c1 l1 n hn k r hmk w hr0 hr1)
def nat_Add.f (k : Nat) (l0 : List Int) (l1 : List Int) : Option (List Int) := if max l0.length l1.length + 1 ≤ 35184372088831 then nat_Make.f k (allRow addG l0 l1 (max l0.length l1.length + 1)) else none
theorem nat_Add.calls (k : Nat) (A0 : Option Addr) (c0 : Nat) (l0 : List Int) (A1 : Option Addr) (c1 : Nat) (l1 : List Int) (r : List Int) (w : World) (hr0 : Kd.C (Kd.int .u32) w A0 l0.length l0) (hc0 : l0.length ≤ c0) (hr1 : Kd.C (Kd.int .u32) w A1 l1.length l1) (hc1 : l1.length ≤ c1) (h : nat_Add.f k l0 l1 = some r) :
   Calls Tryd.prog 68 #[.slice A0 l0.length c0, .slice A1 l1.length c1] w fun e w' => ∃ v0_ : Value, e = .returned (v0_) ∧ Kd.R (Kd.int .u32) 22 w' w.heap.size (fun _ => True) v0_ r ∧ Below w.heap.size w w' := by
 have HR0 := am hr0
 have HR1 := am hr1
 clear hr0 hr1 hc0 hc1
 unfold nat_Add.f at h
 by_cases hb : max l0.length l1.length + 1 ≤ 35184372088831
 case neg =>
   rw [if_neg hb] at h
   exact absurd h (by simp)
 rw [if_pos hb] at h
 obtain ⟨m, hm⟩ : ∃ m : Nat, max l0.length l1.length = m := ⟨_, rfl⟩
 rw [hm] at h hb
 have hmx : (if l0.length < l1.length then (l1.length : Int) else (l0.length : Int)) = (m : Int) := by
   split <;> omega
 have H := am h
 clear h hm
 have h0 : 0 ≤ (m : Int) := by omega
 have h1 : (m : Int) ≤ 35184372088830 := by omega
 go_enter Tryd.func68, Tryd.ntmps68
 go_wp2_with (go_at_call 90; (with_reducible refine Calls.mono (all_calls 91 (.inr rfl) addG addG_step A0 c0 l0 A1 c1 l1 (m + 1) _ ?hN hb k r H.out _ HR0.out HR1.out) ?_); (case hN => omega); rintro e w' ⟨v, rfl, ho, hb⟩; have HO := am ho; have HB := am hb; clear ho hb)
 go_ret
 exact ⟨_, rfl, HO.out, HB.out⟩
def nat_Sub.f (k : Nat) (l0 : List Int) (l1 : List Int) : Option (List Int × Bool) :=
 (nat_Cmp.f k l0 l1).bind fun t => if t < 0 then some (([] : List Int), false) else if l0.length ≤ 35184372088831 then (nat_Make.f k (allRow subG l0 l1 l0.length)).bind fun r => some (r, true) else none
theorem nat_Sub.calls (k : Nat) (A0 : Option Addr) (c0 : Nat) (l0 : List Int) (A1 : Option Addr) (c1 : Nat) (l1 : List Int) (r1 : List Int) (r2 : Bool) (w : World) (hr0 : Kd.C (Kd.int .u32) w A0 l0.length l0) (hc0 : l0.length ≤ c0) (hr1 : Kd.C (Kd.int .u32) w A1 l1.length l1) (hc1 : l1.length ≤ c1) (h : nat_Sub.f k l0 l1 = some (r1, r2)) :
   Calls Tryd.prog 70 #[.slice A0 l0.length c0, .slice A1 l1.length c1] w fun e w' => ∃ v0_ : Value, e = .returned (.tuple #[v0_, .bool r2]) ∧ Kd.R (Kd.int .u32) 22 w' w.heap.size (fun _ => True) v0_ r1 ∧ Below w.heap.size w w' := by
 have HR0 := am hr0
 have HR1 := am hr1
 have HC0 := am hc0
 have HC1 := am hc1
 clear hr0 hr1 hc0 hc1
 unfold nat_Sub.f at h
 obtain ⟨t, ht, h⟩ := Option.bind_eq_some_iff.mp h
 have HT := am ht
 clear ht
 by_cases hneg : t < 0
 · rw [if_pos hneg] at h
   simp only [Option.some.injEq, Prod.mk.injEq] at h
   obtain ⟨rfl, rfl⟩ := h
   have hnb : decide (t < 0) = true := decide_eq_true hneg
   clear hneg
   go_enter Tryd.func70, Tryd.ntmps70
   go_wp2_with (go_at_call 82; (with_reducible refine Calls.mono (nat_Cmp.calls k A0 c0 l0 A1 c1 l1 t _ HR0.out HC0.out HR1.out HC1.out HT.out) ?_); rintro e w' ⟨rfl, hb⟩; have HB := am hb; clear hb)
   go_ret2
   exact ⟨_, rfl, Kd.R_nil _ _ _ _ _, HB.out⟩
 rw [if_neg hneg] at h
 by_cases hb : l0.length ≤ 35184372088831
 case neg =>
   rw [if_neg hb] at h
   exact absurd h (by simp)
 rw [if_pos hb] at h
 obtain ⟨r, hr, h⟩ := Option.bind_eq_some_iff.mp h
 simp only [Option.some.injEq, Prod.mk.injEq] at h
 obtain ⟨rfl, rfl⟩ := h
 have H := am hr
 clear hr
 have hnb : decide (t < 0) = false := decide_eq_false hneg
 clear hneg
 go_enter Tryd.func70, Tryd.ntmps70
 go_wp2_with (first | (go_at_call 82; (with_reducible refine Calls.mono (nat_Cmp.calls k A0 c0 l0 A1 c1 l1 t _ HR0.out HC0.out HR1.out HC1.out HT.out) ?_); rintro e w' ⟨rfl, hb⟩; have HB := am hb; clear hb) | (go_at_call 90; (with_reducible refine Calls.mono (all_calls 92 (.inl rfl) subG subG_step A0 c0 l0 A1 c1 l1 l0.length _ rfl hb k r H.out _ (Kd.C_below HR0.out HB.out) (Kd.C_below HR1.out HB.out)) ?_); rintro e w2 ⟨v, rfl, ho, hb2⟩; have HO := am ho; have HB2 := am hb2; clear ho hb2))
 go_ret2
 exact ⟨_, rfl, Kd.R_lower HO.out HB.out.size, HB.out.trans (HB2.out.mono HB.out.size)⟩
end Go.Proofs.YtofbpjpdahcghaaDoor.Q
namespace Go.Proofs.YtofbpjpdahcghaaDoor.Q
open Go.RowKit Go.Shelf Go.Proofs.YtofbpjpdahcghaaDoorW.PrintWords Go.Proofs.YtofbpjpdahcghaaDoorW.PrintLast Go.Proofs.YtofbpjpdahcghaaDoorW.PrintMore
set_option linter.unusedVariables false
set_option linter.unusedSimpArgs false
def D7 (x q r : Int) : Prop := (x = 9 ∧ q = 1 ∧ r = 2) ∨ (x = 14 ∧ q = 2 ∧ r = 0)
theorem div32_7 (x q r : Int) (h : D7 x q r) (w : World) :
   Calls Tryd.prog 99 #[.int .u32 0, .int .u32 x, .int .u32 7] w fun e w' => e = .returned (.tuple #[.int .u32 q, .int .u32 r]) ∧ Drawn0 w w' := by
 rcases h with ⟨rfl, rfl, rfl⟩ | ⟨rfl, rfl, rfl⟩
 all_goals
   go_enter Tryd.func99, Tryd.ntmps99
   go_wp2
   go_region
   go_wp2
   go_ret2
   exact ⟨rfl, _, rfl⟩
theorem back_in (m : Nat) (a0 : Option Addr) (n0 c0 : Nat) (w : World) : CallsIn Fence.wide m Tryd.prog 98 #[.slice a0 n0 c0] w fun e w' =>
   e = .returned (.func (.func 103) #[] #[.pointer (some ⟨w.heap.size, 0, none⟩)]) ∧ w.alloc (.cells #[.slice a0 n0 c0] 23) = w' := by
 refine callsIn_of_wp Tryd.func98 rfl trivial ?_ rfl
 simp only [Tryd.ntmps98, List.size_toArray, List.length_cons, List.length_nil, Nat.reduceAdd, Nat.reduceSub, Array.replicate_succ, Array.replicate_zero, List.push_toArray, List.append_toArray, List.nil_append, List.cons_append]
 gi_wp2
 go_ret
 exact ⟨rfl, rfl⟩
attribute [local go_sem] Oper.semAt_some
theorem back1_in (l Ba : Nat) (Kp : World → World → Prop) (b o : Nat) (cap : Nat) (x : Int) (J Jx : List Unit → World → Prop) (W : World)
   (hJd : ∀ xs X, J xs X → J xs X.drew)
   (hY : ∀ pre y X, J pre X → pre.length < 1 → YieldAt Fence.wide 2 Tryd.prog l #[.int .i64 0, .int .u32 x] X fun e X' =>
     (e = .returned (.bool true) ∧ J (pre ++ [y]) X' ∧ Kp X X') ∨ (e = .returned (.bool false) ∧ Jx (pre ++ [y]) X'))
   (hca : W.cell? ⟨Ba, 0, none⟩ = some (.slice (some ⟨b, o, none⟩) 1 cap)) (hcx : W.cell? ⟨b, o, none⟩ = some (.int .u32 x)) (h0 : J [] W) :
   CallsIn Fence.wide 3 Tryd.prog 103 #[.func (.yield l) #[] #[], .pointer (some ⟨Ba, 0, none⟩)] W fun e W' => (∃ v, e = .returned v) ∧
     ((∃ ys, ys = [()] ∧ J ys W') ∨ (∃ pre, pre = [()] ∧ Jx pre W')) := by
 have hY1 := hY [] () W h0 (by decide)
 obtain ⟨fn, tmps, assign, body, hy, hR⟩ := hY1
 have HR : Aside0 (RoundIn Fence.wide 2 Tryd.prog l fn tmps assign body W fun e X' => ∃ t : Bool, e = .returned (.bool t) ∧ ((t = true ∧ J [()] X') ∨ (t = false ∧ Jx [()] X'))) := ⟨hR.mono (by
   rintro e X' (⟨rfl, h1, _⟩ | ⟨rfl, h1⟩)
   · exact ⟨true, rfl, .inl ⟨rfl, h1⟩⟩
   · exact ⟨false, rfl, .inr ⟨rfl, h1⟩⟩)⟩
 clear hR hY
 have HJD := am hJd
 clear hJd
 refine callsIn_of_wp Tryd.func103 rfl trivial ?_ rfl
 simp only [Tryd.ntmps103, List.size_toArray, List.length_cons, List.length_nil, Nat.reduceAdd, Nat.reduceSub, Array.replicate_succ, Array.replicate_zero, List.push_toArray, List.append_toArray, List.nil_append, List.cons_append]
 gi_wp2
 gi_loopw [3] (fun i wr => (i = .int .i64 0 ∧ wr = W) ∨ (i = .int .i64 (-1) ∧ Aside0 (J [()] wr)))
   (fun i _ => (intOf i + 1).toNat)
 case atStart => exact .inl ⟨rfl, rfl⟩
 rcases hrel with ⟨rfl, rfl⟩ | ⟨rfl, hJ1⟩
 · gi_wp2_with ((with_reducible refine HR.out.mono ?_); rintro e X' ⟨t, rfl, ht⟩; have HT := am ht; clear ht)
   all_goals
     rcases HT.out with ⟨rfl, hJ3⟩ | ⟨rfl, hJ3⟩
   all_goals first
     | exact absurd ‹(!true) = true› (by decide)
     | exact absurd ‹(!false) = false› (by decide)
     | exact ⟨.inr ⟨rfl, ⟨hJ3⟩⟩, by decide⟩
     | (refine bodyPost_ret (results_none rfl _ _ _) rfl ?_
        exact ⟨⟨_, rfl⟩, .inr ⟨_, rfl, hJ3⟩⟩)
 · gi_wp2
   go_end0
   exact ⟨⟨_, rfl⟩, .inl ⟨_, rfl, hJ1.out⟩⟩
end Go.Proofs.YtofbpjpdahcghaaDoor.Q
namespace Go.Proofs.YtofbpjpdahcghaaDoor.Q
open Go.RowKit Go.Shelf
theorem uponIn_round {F : Fence} {n : Nat} {P : Program} {o : Oper} {a : Act} {K : Act → World → Prop} {Q : Exit → Act → World → Prop} (l : Nat) {r : Result Next} (h : o.uponIn F n P a K Q r) : o.uponIn (F.inRound l) n P a K Q r := by
 unfold Oper.uponIn at h ⊢
 split at h <;> first | exact h | (split <;> first | exact h | simp_all)
theorem wpOpIn_round {F : Fence} {n : Nat} {P : Program} {ops : Array Oper} {Q : Exit → Act → World → Prop} {i : Nat} {K : Act → World → Prop} {a : Act} {w : World} (l : Nat) (hr : F.round = none)
   (hnd : ∀ (j : Nat) o, ops[j]? = some o → ∀ c, o.op ≠ .defer c) (h : wpOpIn F n P ops Q i K a w) : wpOpIn (F.inRound l) n P ops Q i K a w := by
 unfold wpOpIn at h ⊢
 split
 · rename_i e; simp only [e] at h; exact h
 · rename_i o e
   simp only [e] at h
   split
   · rename_i hw
     rw [if_pos hw] at h
     refine ⟨h.1, ?_⟩
     have h2 := h.2
     rw [Oper.semAt_plain F _ _ (hnd i o e)] at h2
     rw [Oper.semAt_plain (F.inRound l) _ _ (hnd i o e)]
     exact uponIn_round l h2
   · rename_i hw
     rw [if_neg hw] at h
     exact h
theorem wpAnyIn_round {F : Fence} {n : Nat} {P : Program} {md : Region.Mode} {ops : Array Oper} {Q : Exit → Act → World → Prop} (l : Nat) (hr : F.round = none) (hnd : ∀ (j : Nat) o, ops[j]? = some o → ∀ c, o.op ≠ .defer c) :
   ∀ (fuel : Nat) (listed : Array Bool) (a : Act) (w : World), wpAnyIn F n P md ops Q fuel listed a w → wpAnyIn (F.inRound l) n P md ops Q fuel listed a w
 | 0, _, _, _, h => h
 | fuel + 1, listed, a, w, h => ⟨h.1, fun i hi => wpOpIn_round l hr hnd (wpOpIn_mono (fun a' w' h' => wpAnyIn_round l hr hnd fuel _ a' w' h') (h.2 i hi))⟩
end Go.Proofs.YtofbpjpdahcghaaDoor.Q
namespace Go.Proofs.YtofbpjpdahcghaaDoor.Q
open Go.RowKit Go.Shelf Go.Proofs.YtofbpjpdahcghaaDoorW.PrintWords Go.Proofs.YtofbpjpdahcghaaDoorW.PrintLast
theorem uponIn_of {n : Nat} {P : Program} {o : Oper} {a : Act} {K : Act → World → Prop} {Q : Exit → Act → World → Prop} {r : Result Next} (h : o.upon P a K Q r) : o.uponIn Fence.wide n P a K Q r := by
 unfold Oper.upon at h
 split at h
 · exact h
 · exact h
 · exact h
 · exact ⟨fun h => (by cases h), callsIn_wide.2 h⟩
 · exact ⟨fun h => (by cases h), fun c cs _ => let ⟨v, w', r, s⟩ := h c cs; ⟨v, w', r, stepsIn_wide.2 s⟩⟩
 · exact h
 · exact h.elim
theorem wpOpIn_of {n : Nat} {P : Program} {ops : Array Oper} {Q : Exit → Act → World → Prop} {i : Nat} {K : Act → World → Prop} {a : Act} {w : World} (hno : ¬ LetsOut Q) (h : wpOp P ops Q i K a w) : wpOpIn Fence.wide n P ops Q i K a w := by
 unfold wpOp at h
 unfold wpOpIn
 split
 · rename_i e; simp only [e] at h; exact h
 · rename_i o e
   simp only [e] at h
   split
   · rename_i hw
     rw [if_pos hw] at h
     rcases h with h | h
     · exact ⟨fun _ _ => trivial, uponIn_of h⟩
     · exact absurd h.2 hno
   · rename_i hw
     rw [if_neg hw] at h
     exact ⟨fun _ _ => trivial, h⟩
theorem wpAnyIn_of {n : Nat} {P : Program} {md : Region.Mode} {ops : Array Oper} {Q : Exit → Act → World → Prop} (hno : ¬ LetsOut Q) :
   ∀ (fuel : Nat) (listed : Array Bool) (a : Act) (w : World), wpAny P md ops Q fuel listed a w → wpAnyIn Fence.wide n P md ops Q fuel listed a w
 | 0, _, _, _, h => h
 | fuel + 1, _, _, _, h => ⟨h.1, fun i hi => wpOpIn_mono (fun a' w' h' => wpAnyIn_of hno fuel _ a' w' h') (wpOpIn_of hno (h.2 i hi))⟩
def noDefer (ops : Array Oper) : Bool := ops.all fun o => match o.op with | .defer _ => false | _ => true
theorem noDefer_spec {ops : Array Oper} (h : noDefer ops = true) : ∀ (j : Nat) o, ops[j]? = some o → ∀ c, o.op ≠ .defer c := by
 intro j o hj c hc
 have h1 := (Array.all_eq_true_iff_forall_mem.1 h) o (Array.mem_of_getElem? hj)
 simp [hc] at h1
theorem startIn_ {P : Program} {ops : Array Oper} {Q : Exit → Act → World → Prop} {S : World → Prop} {ds : List Nat} {id n m l : Nat} {a : Act} {w : World} (ls : Array Bool) (hm : P.follows .mixedOrders = true) (hnd : noDefer ops = true) (hno : ¬ LetsOut Q) (hn : ops.size = n) (hl : Array.replicate n false = ls) (hS : S w.drew)
   (h : S w.drew → wpAnyLast P .any ops Q S ds n ls a w.drew) : (Code.region id ops true).wpIn (Fence.wide.inRound l) m P Q a w := by
 subst hn
 subst hl
 exact wpIn_region_any hm (wpAnyIn_round l rfl (noDefer_spec hnd) _ _ _ _ (wpAnyIn_of hno _ _ _ _ (wpAny_of_last _ _ _ _ (h hS))))
end Go.Proofs.YtofbpjpdahcghaaDoor.Q
namespace Go.Proofs.YtofbpjpdahcghaaDoor.Q
open Go.RowKit Go.Shelf Go.Proofs.YtofbpjpdahcghaaDoorW.PrintWords Go.Proofs.YtofbpjpdahcghaaDoorW.PrintLast Go.Proofs.YtofbpjpdahcghaaDoorW.PrintMore
set_option linter.unusedVariables false
set_option linter.unusedSimpArgs false
attribute [local go_sem] Oper.semAt_some
theorem make_one (w : World) : (Instr.makeSlice 23 (.int .i64 1) (.int .i64 1)).run Tryd.prog w = .ok (.slice (some ⟨w.heap.size, 0, none⟩) 1 1) (w.alloc (.cells #[.int .u32 0] 22)) := by
 have h := run_make_row' (P := Tryd.prog) 23 22 (.int .u32 0) 4 Tryd.underlying23 info22 rfl .i64 .i64 1 (by decide) (by decide) w
 rw [show madeCells #[Value.int .u32 0] 1 = #[Value.int .u32 0] from by simp [madeCells, Array.ext_iff]] at h
 exact h
def pq (pre : List Unit) (v : Int) : Int := if pre.length = 0 then 0 else v
structure SmI (n : Nat) (q r : Int) (pre : List Unit) (W : World) : Prop where
 m : Boxed W n 22 (.int .u32 7)
 g : Boxed W (n + 1) 22 (.int .u32 (pq pre q))
 o : Boxed W (n + 2) 23 (.slice (some ⟨n + 1, 0, none⟩) 1 1)
 r : Boxed W (n + 3) 22 (.int .u32 (pq pre r))
theorem SmI.kept {n : Nat} {q r : Int} {pre : List Unit} {X Y : World} {row : Option Nat} (h : SmI n q r pre X) (hg : X.grownBy Y row) (hr : ∀ b, row = some b → ∃ o : Obj, X.heap[b]? = some o ∧ o.isCells = false) : SmI n q r pre Y :=
 ⟨box_kept h.m hg hr, box_kept h.g hg hr, box_kept h.o hg hr, box_kept h.r hg hr⟩
theorem SmI.step {n : Nat} {q r : Int} {X : World} (h : SmI n q r [] X) : SmI n q r [()] ((X.setCell ⟨n + 1, 0, none⟩ (.int .u32 q)).setCell ⟨n + 3, 0, none⟩ (.int .u32 r)) := by
 refine ⟨(h.m.other (by omega) _).other (by omega) _, (h.g.set _).other (by omega) _, (h.o.other (by omega) _).other (by omega) _, (h.r.other (by omega) _).set _⟩
theorem SmI.drawn {n : Nat} {q r : Int} {W w2 w : World} (h : SmI n q r [] W) (hb : Below n w W) (hd : Drawn0 W.drew w2) :
   SmI n q r [] w2 ∧ Below n w w2 ∧ w2.cell? ⟨n + 1 + 1, 0, none⟩ = some (.slice (some ⟨n + 1, 0, none⟩) 1 1) ∧ w2.frozen? ⟨n + 1, 0, none⟩ = false ∧ w2.cell? ⟨n + 1, 0, none⟩ = some (.int .u32 0) ∧ (w2.setCell ⟨n + 1, 0, none⟩ (.int .u32 q)).frozen? ⟨n + 1 + 1 + 1, 0, none⟩ = false ∧ (w2.setCell ⟨n + 1, 0, none⟩ (.int .u32 q)).cell? ⟨n + 1 + 1 + 1, 0, none⟩ = some (.int .u32 0) := by
 obtain ⟨nd, rfl⟩ := hd
 have h1 : SmI n q r [] (W.drew.drewN nd) := (h.kept (grownBy_drewN W 1 none) (fun _ e => by cases e)).kept (grownBy_drewN _ nd none) (fun _ e => by cases e)
 have hr := h1.r.other (B' := n + 1) (by omega) (.int .u32 q)
 exact ⟨h1, hb.trans ⟨rfl, rfl, rfl, Nat.le_refl _, fun _ _ => rfl⟩, h1.o.cell, h1.g.frozen, h1.g.cell, hr.frozen, hr.cell⟩
theorem SmI.drawn2 {n : Nat} {q r : Int} {W X w2 w : World} (h : SmI n q r [] X) (hb : Below n w X) (hk : KeepsOthers W X) (hd : Drawn0 X w2) : SmI n q r [] w2 ∧ Below n w w2 ∧ KeepsOthers W w2 := by
 obtain ⟨nd, rfl⟩ := hd
 exact ⟨h.kept (grownBy_drewN _ nd none) (fun _ e => by cases e), hb.trans ⟨rfl, rfl, rfl, Nat.le_refl _, fun _ _ => rfl⟩, hk.trans ⟨Nat.le_refl _, fun _ _ hh _ => hh⟩⟩
theorem SmI.cells {n : Nat} {q r : Int} {w2 : World} (h1 : SmI n q r [] w2) : w2.cell? ⟨n + 1, 0, none⟩ = some (.int .u32 0) ∧ w2.frozen? ⟨n + 1, 0, none⟩ = false ∧
   (w2.setCell ⟨n + 1, 0, none⟩ (.int .u32 q)).cell? ⟨n + 1 + 1 + 1, 0, none⟩ = some (.int .u32 0) ∧ (w2.setCell ⟨n + 1, 0, none⟩ (.int .u32 q)).frozen? ⟨n + 1 + 1 + 1, 0, none⟩ = false :=
 have hr := h1.r.other (B' := n + 1) (by omega) (.int .u32 q)
 ⟨h1.g.cell, h1.g.frozen, hr.cell, hr.frozen⟩
theorem SmI.fin2 {n : Nat} {q r : Int} {W w2 w : World} (h : SmI n q r [] w2) (hb : Below n w w2) (k1 : KeepsOthers W w2) (B : Nat) :
   KeepsFrom B W ((w2.setCell ⟨n + 1, 0, none⟩ (.int .u32 q)).setCell ⟨n + 3, 0, none⟩ (.int .u32 r)) ∧ True ∧ SmI n q r [()] ((w2.setCell ⟨n + 1, 0, none⟩ (.int .u32 q)).setCell ⟨n + 3, 0, none⟩ (.int .u32 r)) ∧ Below n w ((w2.setCell ⟨n + 1, 0, none⟩ (.int .u32 q)).setCell ⟨n + 3, 0, none⟩ (.int .u32 r)) :=
 ⟨(k1.trans ((KeepsOthers.setCell _ _ _).trans (KeepsOthers.setCell _ _ _))).from _, trivial, h.step, Below.setCell (p := ⟨n + 3, 0, none⟩) (Below.setCell (p := ⟨n + 1, 0, none⟩) hb (by simp) _) (by simp) _⟩
def div_Small.T8 : Bool × List (List Nat × List Nat) := (true, [([], []), ([], []), ([], []), ([], []), ([], []), ([2, 3, 4], [2, 3, 4]), ([5], [5]), ([6], [6]), ([6], [6]), ([0, 1, 0, 1, 2, 3, 4, 5, 6, 7], [0, 1]), ([9, 7, 5, 0, 1, 2, 3, 4, 5, 6, 7], [7, 9]), ([8, 10, 0, 1, 2, 3, 4, 5, 6, 7, 8, 9, 10], [8])])
def div_Small.B8 : List Nat := [0, 0, 0, 0, 0, 28, 60, 124, 124, 255, 767, 2047]
theorem div_Small.tab8 : rtab .any (opsOf Tryd.f83 8) = div_Small.T8 := by kernel_rfl
theorem div_Small.bits8 : waitsOk div_Small.T8.2 div_Small.B8 = true := by kernel_rfl
theorem small_made {x q r : Int} (h : D7 x q r) : nat_Make.f 5 [q] = some [q] := by
 rcases h with ⟨rfl, rfl, rfl⟩ | ⟨rfl, rfl, rfl⟩ <;> kernel_rfl
def onlyN (Q : Exit → Act → World → Prop) : Exit → Act → World → Prop
 | .normal, a, w => Q .normal a w
 | _, _, _ => False
theorem only_normal {F : Fence} {n : Nat} {P : Program} {c : Code} {Q : Exit → Act → World → Prop} {a : Act} {w : World} (h : c.wpIn F n P (onlyN Q) a w) : c.wpIn F n P Q a w :=
 wpIn_mono h (by
   intro e a w h
   cases e <;> first | exact h | exact h.elim)
attribute [local go_sem] make_one
theorem small_in (x q r : Int) (hD : D7 x q r) (b o c : Nat) (w : World) (hx : w.cell? ⟨b, o, none⟩ = some (.int .u32 x)) :
   CallsIn Fence.wide 4 Tryd.prog 83 #[.slice (some ⟨b, o, none⟩) 1 c, .int .u32 7] w fun e w' => ∃ v0_ : Value, e = .returned (.tuple #[v0_, .int .u32 r, .int .i64 0]) ∧ Kd.R (Kd.int .u32) 22 w' w.heap.size (fun _ => True) v0_ [q] ∧ Below w.heap.size w w' := by
 have HD := am hD
 clear hD
 refine callsIn_of_wp_marks Tryd.func83 rfl trivial ?_ rfl
 simp only [Tryd.ntmps83, List.size_toArray, List.length_cons, List.length_nil, Nat.reduceAdd, Nat.reduceSub, Array.replicate_succ, Array.replicate_zero, List.push_toArray, List.append_toArray, List.nil_append, List.cons_append]
 gi_wp2_with (refine ⟨trivial, ?_⟩; gi_at_call 98; (with_reducible refine CallsIn.mono (back_in _ _ _ _ _) ?_); rintro e w' ⟨rfl, rfl⟩)
 have hm : Boxed (((((w.alloc (.cells #[.int .u32 7] 22)).alloc (.cells #[.int .u32 0] 22)).alloc (.cells #[.slice (some ⟨w.heap.size + 1, 0, none⟩) 1 1] 23)).alloc (.cells #[.int .u32 0] 22)).alloc (.cells #[.slice (some ⟨b, o, none⟩) 1 c] 23)) w.heap.size 22 (.int .u32 7) := ((((Boxed.new w 22 _).alloc _).alloc _).alloc _).alloc _
 have hg : Boxed (((((w.alloc (.cells #[.int .u32 7] 22)).alloc (.cells #[.int .u32 0] 22)).alloc (.cells #[.slice (some ⟨w.heap.size + 1, 0, none⟩) 1 1] 23)).alloc (.cells #[.int .u32 0] 22)).alloc (.cells #[.slice (some ⟨b, o, none⟩) 1 c] 23)) (w.heap.size + 1) 22 (.int .u32 0) := by
   have h := Boxed.new (w.alloc (.cells #[.int .u32 7] 22)) 22 (.int .u32 0)
   rw [World.size_alloc] at h
   exact ((h.alloc _).alloc _).alloc _
 have ho : Boxed (((((w.alloc (.cells #[.int .u32 7] 22)).alloc (.cells #[.int .u32 0] 22)).alloc (.cells #[.slice (some ⟨w.heap.size + 1, 0, none⟩) 1 1] 23)).alloc (.cells #[.int .u32 0] 22)).alloc (.cells #[.slice (some ⟨b, o, none⟩) 1 c] 23)) (w.heap.size + 2) 23 (.slice (some ⟨w.heap.size + 1, 0, none⟩) 1 1) := by
   have h := Boxed.new ((w.alloc (.cells #[.int .u32 7] 22)).alloc (.cells #[.int .u32 0] 22)) 23 (.slice (some ⟨w.heap.size + 1, 0, none⟩) 1 1)
   rw [World.size_alloc, World.size_alloc] at h
   exact (h.alloc _).alloc _
 have hr : Boxed (((((w.alloc (.cells #[.int .u32 7] 22)).alloc (.cells #[.int .u32 0] 22)).alloc (.cells #[.slice (some ⟨w.heap.size + 1, 0, none⟩) 1 1] 23)).alloc (.cells #[.int .u32 0] 22)).alloc (.cells #[.slice (some ⟨b, o, none⟩) 1 c] 23)) (w.heap.size + 3) 22 (.int .u32 0) := by
   have h := Boxed.new (((w.alloc (.cells #[.int .u32 7] 22)).alloc (.cells #[.int .u32 0] 22)).alloc (.cells #[.slice (some ⟨w.heap.size + 1, 0, none⟩) 1 1] 23)) 22 (.int .u32 0)
   rw [World.size_alloc, World.size_alloc, World.size_alloc] at h
   exact h.alloc _
 have hb4 : Boxed (((((w.alloc (.cells #[.int .u32 7] 22)).alloc (.cells #[.int .u32 0] 22)).alloc (.cells #[.slice (some ⟨w.heap.size + 1, 0, none⟩) 1 1] 23)).alloc (.cells #[.int .u32 0] 22)).alloc (.cells #[.slice (some ⟨b, o, none⟩) 1 c] 23)) (w.heap.size + 4) 23 (.slice (some ⟨b, o, none⟩) 1 c) := by
   have h := Boxed.new ((((w.alloc (.cells #[.int .u32 7] 22)).alloc (.cells #[.int .u32 0] 22)).alloc (.cells #[.slice (some ⟨w.heap.size + 1, 0, none⟩) 1 1] 23)).alloc (.cells #[.int .u32 0] 22)) 23 (.slice (some ⟨b, o, none⟩) 1 c)
   rw [World.size_alloc, World.size_alloc, World.size_alloc, World.size_alloc] at h
   exact h
 have hz : (((((w.alloc (.cells #[.int .u32 7] 22)).alloc (.cells #[.int .u32 0] 22)).alloc (.cells #[.slice (some ⟨w.heap.size + 1, 0, none⟩) 1 1] 23)).alloc (.cells #[.int .u32 0] 22)).alloc (.cells #[.slice (some ⟨b, o, none⟩) 1 c] 23)).heap.size = w.heap.size + 5 := by simp
 have hbW : Below w.heap.size w (((((w.alloc (.cells #[.int .u32 7] 22)).alloc (.cells #[.int .u32 0] 22)).alloc (.cells #[.slice (some ⟨w.heap.size + 1, 0, none⟩) 1 1] 23)).alloc (.cells #[.int .u32 0] 22)).alloc (.cells #[.slice (some ⟨b, o, none⟩) 1 c] 23)) := below_alloc (below_alloc (below_alloc (below_alloc (below_alloc (Below.refl w.heap.size w) _) _) _) _) _
 generalize (((((w.alloc (.cells #[.int .u32 7] 22)).alloc (.cells #[.int .u32 0] 22)).alloc (.cells #[.slice (some ⟨w.heap.size + 1, 0, none⟩) 1 1] 23)).alloc (.cells #[.int .u32 0] 22)).alloc (.cells #[.slice (some ⟨b, o, none⟩) 1 c] 23)) = W1 at hm hg ho hr hb4 hz hbW ⊢
 have hx1 : W1.cell? ⟨b, o, none⟩ = some (.int .u32 x) := (hbW.cell (World.block_lt_of_cell? w _ hx)).trans hx
 have hI0 : SmI w.heap.size q r [] W1 := ⟨hm, hg, ho, hr⟩
 clear hm hg ho hr
 have hts : SeqStopsK Fence.wide 3 Tryd.prog 103 #[.pointer (some ⟨w.heap.size + 1 + 1 + 1 + 1, 0, none⟩)] (fun _ : Unit => #[Value.int .i64 0, Value.int .u32 x]) (fun _ _ => True) (fun ys => ys = [()]) (fun pre => pre = [()]) 1 W1 := fun l J Jx X hX hJ _ hY h0 =>
   back1_in l (w.heap.size + 4) (fun _ _ => True) b o c x J Jx X (fun xs Y h => hJ xs Y _ none h (grownBy_drewN Y 1 none) (fun r e => by cases e)) hY ((hX.cell (p := ⟨w.heap.size + 4, 0, none⟩) (by simp; omega)).trans hb4.cell) ((hX.cell (World.block_lt_of_cell? _ _ hx1)).trans hx1) h0
 refine wpIn_rangeFunc_ownG (F := Fence.wide) rfl (by omega) (gf := 103) (lb := #[.pointer (some ⟨w.heap.size + 1 + 1 + 1 + 1, 0, none⟩)]) rfl trivial (enters_of Tryd.func103 (by kernel_rfl) rfl)
   hts (fun _ _ => trivial) (fun _ _ _ _ _ _ _ _ => trivial) (Below.refl _ _) (fun _ => rfl)
   (fun pre W => SmI w.heap.size q r pre W ∧ Below w.heap.size w W)
   (fun _ _ _ => False)
   (OwnFrom.and (Own.from (fun s A B row hs hg hr => hs.kept hg hr) _) (ownFrom_below (Nat.le_refl _) (by omega)))
   (fun _ _ _ _ _ hs _ _ => hs)
   ⟨hI0, hbW⟩
   (fun _ => { tmps := #[Value.slice (some { block := b, off := o }) 1 c, Value.int IntKind.u32 7, undef, Value.pointer (some { block := w.heap.size, off := 0 }), Value.slice none 0 0, Value.int IntKind.u32 0, Value.int IntKind.i64 0, Value.pointer (some { block := w.heap.size + 1 + 1, off := 0 }), Value.pointer (some { block := w.heap.size + 1 + 1 + 1, off := 0 }), Value.int IntKind.i64 0, Value.int IntKind.u32 x, Value.int IntKind.u32 7, Value.bool false, Value.slice (some { block := b, off := o }) 1 c, Value.int IntKind.i64 1, Value.slice (some { block := w.heap.size + 1, off := 0 }) 1 1, Value.slice (some { block := b, off := o }) 1 c, Value.func (Fn.func 103) #[] #[Value.pointer (some { block := w.heap.size + 1 + 1 + 1 + 1, off := 0 })], Value.int IntKind.i64 0, Value.int IntKind.u32 x, undef, undef, undef, undef, undef, undef, undef, undef, undef, undef, undef, undef, undef], defers := [] }) ?assign ?body ?done ?stop
 case assign =>
   intro l y W K hK
   clear hts hI0 hb4
   gi_wp2
   exact hK
 case body =>
   rintro l pre ⟨⟩ W ⟨hI, hB⟩ hlt
   obtain rfl : pre = [] := List.eq_nil_of_length_eq_zero (by omega)
   clear hts hI0 hb4 hx1 hbW hx
   have hmx : Tryd.prog.follows .mixedOrders = true := by kernel_rfl
   have hcm : W.cell? ⟨w.heap.size, 0, none⟩ = some (.int .u32 7) := hI.m.cell
   have hco : W.cell? ⟨w.heap.size + 1 + 1, 0, none⟩ = some (.slice (some ⟨w.heap.size + 1, 0, none⟩) 1 1) := hI.o.cell
   have hcr : W.cell? ⟨w.heap.size + 1 + 1 + 1, 0, none⟩ = some (.int .u32 0) := hI.r.cell
   have hS0 : SmI w.heap.size q r [] W.drew ∧ Below w.heap.size w W.drew ∧ KeepsOthers W W.drew := ⟨hI.kept (grownBy_drewN W 1 none) (fun _ e => by cases e), hB.drew, KeepsOthers.drew W⟩
   clear hI hB hlt hcm hco hcr
   gi_wp2
   refine startIn_ (n := 12) (S := fun w' => SmI w.heap.size q r [] w' ∧ Below w.heap.size w w' ∧ KeepsOthers W w') (ds := [10, 11]) (bm 12 0) (by assumption) (by kernel_rfl) (fun ⟨_, _, h_⟩ => h_) rfl rfl hS0 (fun hHeld => ?_); refine with_tabW div_Small.tab8 div_Small.bits8 (fun HT_ HW_ => ?_)
   generalize W.drew = wd at hHeld ⊢
   refine pureB (N := some 22) 1 (bm 12 2) ?_
   refine pureB (N := some 24) 3 (bm 12 10) ?_
   refine take_ (i := 0) (N := some 21) (v := ?_) (a' := ?_) (bm 12 11) rfl rfl (take_ofW HT_.out HW_.out (by kernel_rfl)) (fun _ _ _ h => h) (Or.inl ⟨by rfl, ?_⟩) hHeld ?_ ?_
   rotate_left
   · intro w' hS_
     have q_ : w'.cell? ⟨w.heap.size + 1 + 1, 0, none⟩ = some (.slice (some ⟨w.heap.size + 1, 0, none⟩) 1 1) := hS_.1.o.cell
     go_simp
     with_reducible rfl
   rotate_left
   · exact actp
   refine take_ (i := 2) (N := some 23) (v := ?_) (a' := ?_) (bm 12 15) rfl rfl (take_ofW HT_.out HW_.out (by kernel_rfl)) (fun _ _ _ h => h) (Or.inl ⟨by rfl, ?_⟩) hHeld ?_ ?_
   rotate_left
   · intro w' hS_
     have q_ : w'.cell? ⟨w.heap.size + 1 + 1 + 1, 0, none⟩ = some (.int .u32 0) := hS_.1.r.cell
     go_simp
     with_reducible rfl
   rotate_left
   · exact actp
   refine take_ (i := 4) (N := some 25) (v := ?_) (a' := ?_) (bm 12 31) rfl rfl (take_ofW HT_.out HW_.out (by kernel_rfl)) (fun _ _ _ h => h) (Or.inl ⟨by rfl, ?_⟩) hHeld ?_ ?_
   rotate_left
   · intro w' hS_
     have q_ : w'.cell? ⟨w.heap.size, 0, none⟩ = some (.int .u32 7) := hS_.1.m.cell
     go_simp
     with_reducible rfl
   rotate_left
   · exact actp
   refine one_ (i := 5) (N := some 26) (bm 12 63) rfl rfl (one_of HT_.out (by kernel_rfl)) (by decide) (fun K hK => ?_)
   refine goes_ Tryd.func99 (by kernel_rfl) rfl #[.int .u32 0, .int .u32 x, .int .u32 7] (by rfl) rfl rfl aM ?_
   (with_reducible refine (div32_7 x q r HD.out _).mono ?_)
   rintro e2 w2 ⟨rfl, hd2⟩
   refine ⟨_, rfl, ?_⟩
   have hS2 := SmI.drawn2 hHeld.1 hHeld.2.1 hHeld.2.2 hd2
   refine hK.out _ _ hS2 (fun hHeld2 => ?_)
   clear hK K hHeld
   refine norm_ (a' := ?_) ?_ ?_
   rotate_left
   · show Act.put _ (some 26) _ = _; exact actp
   refine pureB (N := some 20) 6 (bm 12 127) ?_
   refine pureB (N := some 27) 7 (bm 12 255) ?_
   refine pureB (N := some 28) 8 (bm 12 511) ?_
   refine pureB (N := some 29) 9 (bm 12 1023) ?_
   obtain ⟨hcg, hfg, hcr2, hfr⟩ := hHeld2.1.cells
   refine last_ (i := 10) (N := none) (bm 12 2047) rfl rfl (one_of HT_.out (by kernel_rfl)) (by decide) (fun K hK => ?_)
   refine skip_ (w1 := ?_) (by rfl) rfl ?_ ?_
   rotate_left
   · go_simp
     rfl
   refine hK.out _ _ ?_
   clear hK K
   refine last_ (i := 11) (N := none) (bm 12 4095) rfl rfl (one_of HT_.out (by kernel_rfl)) (by decide) (fun K hK => ?_)
   refine skip_ (w1 := ?_) (by rfl) rfl ?_ ?_
   rotate_left
   · go_simp
     rfl
   refine hK.out _ _ ?_
   clear hK K
   refine done_ (done_of HT_.out (by kernel_rfl)) ?_
   exact SmI.fin2 hHeld2.1 hHeld2.2.1 hHeld2.2.2 _
 case done =>
   rintro D ys W hD rfl ⟨hI, hB⟩ hK
   clear hts hI0 hb4 hx1 hbW hx
   have hmx : Tryd.prog.follows .mixedOrders = true := by kernel_rfl
   have hq : pq [()] q = q := rfl
   have hco : W.drew.cell? ⟨w.heap.size + 1 + 1, 0, none⟩ = some (.slice (some ⟨w.heap.size + 1, 0, none⟩) 1 1) := hI.o.cell
   have hcr : W.drew.cell? ⟨w.heap.size + 1 + 1 + 1, 0, none⟩ = some (.int .u32 r) := hI.r.cell
   have hC : Kd.C (Kd.int .u32) W.drew (some ⟨w.heap.size + 1, 0, none⟩) 1 [q] := by
     have hR : (Kd.int .u32).R 22 W.drew (w.heap.size + 1) (fun _ => True) (.slice (some ⟨w.heap.size + 1, 0, none⟩) 1 1) [q] := Kd.R_of_own ⟨rfl, .inr ⟨w.heap.size + 1, 1, #[.int .u32 q], rfl, Nat.le_refl _, hI.g, Nat.le_refl _, by decide, rfl, rfl⟩⟩ (fun _ _ => trivial)
     obtain ⟨A', c', hv, hle, hC⟩ := Kd.R_reads hR
     injection hv with e1 e2 e3
     subst e1
     exact hC
   have HC := am hC
   have HI := am hI
   have HB := am hB
   have HK' := am hK
   have HDD := am hD
   have HZ := am hz
   clear hI hB hK hC hD hz
   gi_wp2
   refine only_normal ?_
   gi_region_with_o (first | (refine ⟨trivial, ?_⟩; gi_at_call 81; (with_reducible refine CallsIn.mono (callsIn_wide.2 (nat_Make.calls 5 _ 1 [q] [q] _ HC.out (Nat.le_refl _) (small_made HD.out))) ?_); rintro e w4 ⟨v4, rfl, ho4, hb4⟩; have hcr4 : w4.cell? ⟨w.heap.size + 1 + 1 + 1, 0, none⟩ = some (.int .u32 r) := (hb4.cell (World.block_lt_of_cell? _ _ HI.out.r.cell)).trans HI.out.r.cell; have HO4 := am ho4; have HB4 := am hb4; clear ho4 hb4))
   all_goals
     unfold onlyN
     gi_wp2
     have hDlt : D < W.heap.size := (Array.getElem?_eq_some_iff.1 HK'.out).1
     have hK4 : w4.heap[D]? = some (.deferred (some [])) := (HB4.out.block D hDlt).trans HK'.out
     have hle1 : w.heap.size ≤ W.heap.size := HB.out.size
     refine ⟨by simp, .inl ⟨_, _, rfl, run_takeDeferred hK4, ?_⟩⟩
     exact ⟨_, results_tmp3 rfl _ _ _, v4, rfl, R_putObj_ (Kd.R_lower HO4.out hle1) _ hK4 rfl, (HB.out.drew.trans (HB4.out.mono hle1)).trans (belowK_b (w := w) (Nat.le_refl _) w4 D _ _ (by have := HDD.out; have := HZ.out; omega) hK4 rfl rfl)⟩
 case stop =>
   rintro D c pre W _ _ h _
   exact h.elim
theorem div_Small.calls7 (x q r : Int) (hD : D7 x q r) (A0 : Option Addr) (c0 : Nat) (w : World) (hr0 : Kd.C (Kd.int .u32) w A0 1 [x]) :
   Calls Tryd.prog 83 #[.slice A0 1 c0, .int .u32 7] w fun e w' => ∃ v0_ : Value, e = .returned (.tuple #[v0_, .int .u32 r, .int .i64 0]) ∧ Kd.R (Kd.int .u32) 22 w' w.heap.size (fun _ => True) v0_ [q] ∧ Below w.heap.size w w' := by
 obtain ⟨ad, e1, hx⟩ := Kd.at_int hr0 0 (by decide) (by decide)
 cases e1
 have hx' : w.cell? ad = some (.int .u32 x) := by have h_ := hx; rw [show rd [x] 0 = x from rfl] at h_; simpa [Addr.add] using h_
 obtain ⟨b, o, sp⟩ := ad
 have hsp : sp = none := by simpa using World.cell?_spot hx'
 subst hsp
 exact callsIn_wide.1 (small_in x q r hD b o c0 w hx')
end Go.Proofs.YtofbpjpdahcghaaDoor.Q
namespace Go.Proofs.YtofbpjpdahcghaaDoor.Q
open Go.RowKit Go.Shelf Go.Proofs.YtofbpjpdahcghaaDoorW.PrintWords Go.Proofs.YtofbpjpdahcghaaDoorW.PrintLast Go.Proofs.YtofbpjpdahcghaaDoorW.PrintMore
set_option linter.unusedVariables false
set_option linter.unusedSimpArgs false
theorem CV_ofR {w : World} {v : Value} {xs : List Int} {base : Nat} {ok : Nat → Prop} (h : Kd.R (Kd.int .u32) 22 w base ok v xs) : CV w v xs := by
 obtain ⟨A, c, e, l, hC⟩ := Kd.R_reads h
 exact ⟨A, c, e, l, hC⟩
theorem C_new (w : World) (v : Int) : Kd.C (Kd.int .u32) (w.alloc (.cells #[.int .u32 v] 22)) (some ⟨w.heap.size, 0, none⟩) 1 [v] := by
 have hR : (Kd.int .u32).R 22 (w.alloc (.cells #[.int .u32 v] 22)) w.heap.size (fun _ => True) (.slice (some ⟨w.heap.size, 0, none⟩) 1 1) [v] := Kd.R_of_own ⟨rfl, .inr ⟨w.heap.size, 1, #[.int .u32 v], rfl, Nat.le_refl _, World.alloc_heap_new w _, Nat.le_refl _, by decide, rfl, rfl⟩⟩ (fun _ _ => trivial)
 obtain ⟨A', c', hv, hle, hC⟩ := Kd.R_reads hR
 injection hv with e1 e2 e3
 subst e1
 exact hC
def DM (q r : List Int) (w : World) (e : Ending) (w' : World) : Prop :=
 ∃ v0 v1, e = .returned (.tuple #[v0, v1, .int .i64 0]) ∧ CV w' v0 q ∧ CV w' v1 r ∧ Below w.heap.size w w'
theorem div67_lt (A0 A1 : Option Addr) (c0 c1 : Nat) (w : World) (h0 : Kd.C (Kd.int .u32) w A0 1 [1]) (hc0 : 1 ≤ c0) (h1 : Kd.C (Kd.int .u32) w A1 1 [7]) (hc1 : 1 ≤ c1) :
   Calls Tryd.prog 67 #[.slice A0 1 c0, .slice A1 1 c1] w (DM [] [1] w) := by
 have hcmp : Calls Tryd.prog 82 #[.slice A0 1 c0, .slice A1 1 c1] w fun e w' => e = .returned (.int .i64 (-1)) ∧ Below w.heap.size w w' := nat_Cmp.calls 5 A0 c0 [1] A1 c1 [7] (-1) w h0 hc0 h1 hc1 (by kernel_rfl)
 have H0 := am h0
 clear h0 h1
 go_enter Tryd.func67, Tryd.ntmps67
 go_wp2_with (go_at_call 82; (with_reducible refine hcmp.mono ?_); rintro e w' ⟨rfl, hb⟩; have HB := am hb; clear hb hcmp)
 refine bodyPost_ret (results_tmp3 rfl _ _ _) rfl ?_
 exact ⟨_, _, rfl, CV_nil _, ⟨A0, c0, rfl, hc0, Kd.C_below H0.out HB.out⟩, HB.out⟩
theorem div67_ge (x q r : Int) (hD : D7 x q r) (rr : List Int) (hrr : nat_Make.f 5 [r] = some rr) (A0 A1 : Option Addr) (c0 c1 : Nat) (w : World) (h0 : Kd.C (Kd.int .u32) w A0 1 [x]) (hc0 : 1 ≤ c0) (h1 : Kd.C (Kd.int .u32) w A1 1 [7]) (hc1 : 1 ≤ c1) :
   Calls Tryd.prog 67 #[.slice A0 1 c0, .slice A1 1 c1] w (DM [q] rr w) := by
 have hcf : nat_Cmp.f 5 [x] [7] = some 1 := by rcases hD with ⟨rfl, rfl, rfl⟩ | ⟨rfl, rfl, rfl⟩ <;> kernel_rfl
 have hcmp : Calls Tryd.prog 82 #[.slice A0 1 c0, .slice A1 1 c1] w fun e w' => e = .returned (.int .i64 1) ∧ Below w.heap.size w w' := nat_Cmp.calls 5 A0 c0 [x] A1 c1 [7] 1 w h0 hc0 h1 hc1 hcf
 obtain ⟨a1, e1, hx1⟩ := Kd.at_int h1 0 (by decide) (by decide)
 cases e1
 have hx7 : w.cell? a1 = some (.int .u32 7) := by have h_ := hx1; rw [show rd [7] 0 = 7 from rfl] at h_; simpa [Addr.add] using h_
 have H0 := am h0
 have H1 := am h1
 have HX := am hx7
 clear h0 h1 hx1 hx7 hcf
 go_enter Tryd.func67, Tryd.ntmps67
 go_wp2_with (first | (go_at_call 82; (with_reducible refine hcmp.mono ?_); rintro e w2 ⟨rfl, hb⟩; have hc7 := (hb.cell (World.block_lt_of_cell? _ _ HX.out)).trans HX.out; have HB := am hb; clear hb hcmp) | (go_at_call 83; (with_reducible refine (div_Small.calls7 x q r hD A0 c0 _ (Kd.C_below H0.out HB.out)).mono ?_); rintro e w3 ⟨v3, rfl, hR3, hb3⟩; have HR3 := am hR3; have HB3 := am hb3; clear hR3 hb3) | (go_at_call 81; (refine (show Calls Tryd.prog 81 #[.slice (some ⟨_, 0, none⟩) 1 1] _ _ from (nat_Make.calls 5 _ 1 [r] rr _ (C_new _ _) (Nat.le_refl _) hrr)).mono ?_); rintro e w4 ⟨v4, rfl, hR4, hb4⟩; have HR4 := am hR4; have HB4 := am hb4; clear hR4 hb4))
 refine bodyPost_ret (results_tmp3 rfl _ _ _) rfl ?_
 exact ⟨v3, v4, rfl, CV_below (CV_ofR HR3.out) (below_step (below_alloc (Below.refl _ _) _) HB4.out), CV_ofR HR4.out, below_step (below_alloc (below_step HB.out HB3.out) _) HB4.out⟩
theorem aI_new (w : World) (o : Obj) : (w.alloc o).heap[w.heap.size]? = some o := by show (w.heap.push o)[w.heap.size]? = _; simp
theorem aI_size (w : World) (o : Obj) : (w.alloc o).heap.size = w.heap.size + 1 := by show (w.heap.push o).size = _; simp
theorem aI_old {w : World} {o o' : Obj} {k : Nat} (h : w.heap[k]? = some o') : (w.alloc o).heap[k]? = some o' := ((below_alloc (Below.refl _ _) o).block k (blk_lt h)).trans h
theorem cell_blk {w : World} {g i : Nat} {cs : Array Value} {t : TypeId} {fr : Nat × Nat} {v : Value} (h : w.heap[g]? = some (.cells cs t fr)) (hv : cs[i]? = some v) : w.cell? ⟨g, i, none⟩ = some v := by
 simp [World.cell?, h, hv]
theorem boxes4 (w : World) (v2 v3 v4 v5 : Array Value) (t : TypeId) :
   ((((w.alloc (.cells v2 t)).alloc (.cells v3 t)).alloc (.cells v4 t)).alloc (.cells v5 t)).heap[w.heap.size]? = some (.cells v2 t (0, 0)) ∧
   ((((w.alloc (.cells v2 t)).alloc (.cells v3 t)).alloc (.cells v4 t)).alloc (.cells v5 t)).heap[w.heap.size + 1]? = some (.cells v3 t (0, 0)) ∧
   ((((w.alloc (.cells v2 t)).alloc (.cells v3 t)).alloc (.cells v4 t)).alloc (.cells v5 t)).heap[w.heap.size + 1 + 1]? = some (.cells v4 t (0, 0)) ∧
   ((((w.alloc (.cells v2 t)).alloc (.cells v3 t)).alloc (.cells v4 t)).alloc (.cells v5 t)).heap[w.heap.size + 1 + 1 + 1]? = some (.cells v5 t (0, 0)) ∧
   Below w.heap.size w ((((w.alloc (.cells v2 t)).alloc (.cells v3 t)).alloc (.cells v4 t)).alloc (.cells v5 t)) := by
 refine ⟨aI_old (aI_old (aI_old (aI_new w _))), ?_, ?_, ?_, below_alloc (below_alloc (below_alloc (below_alloc (Below.refl w.heap.size w) _) _) _) _⟩
 · have h := aI_new (w.alloc (.cells v2 t)) (.cells v3 t)
   rw [aI_size] at h
   exact aI_old (aI_old h)
 · have h := aI_new ((w.alloc (.cells v2 t)).alloc (.cells v3 t)) (.cells v4 t)
   rw [aI_size, aI_size] at h
   exact aI_old h
 · have h := aI_new (((w.alloc (.cells v2 t)).alloc (.cells v3 t)).alloc (.cells v4 t)) (.cells v5 t)
   rwa [aI_size, aI_size, aI_size] at h
theorem stores4 {w4 : World} {n4 n5 : Nat} (hne : n5 ≠ n4) (b4 : Bool) (v3 v4 : Value) (E4 : w4.heap[n4]? = some (.cells #[.bool false, .slice none 0 0] 56 (0, 0))) (E5 : w4.heap[n5]? = some (.cells #[.bool false, .slice none 0 0] 56 (0, 0))) :
   w4.cell? ⟨n4, 0, none⟩ = some (.bool false) ∧ w4.frozen? ⟨n4, 0, none⟩ = false ∧ (w4.setCell ⟨n4, 0, none⟩ (.bool b4)).cell? ⟨n4, 1, none⟩ = some (.slice none 0 0) ∧ (w4.setCell ⟨n4, 0, none⟩ (.bool b4)).frozen? ⟨n4, 1, none⟩ = false ∧
   ((w4.setCell ⟨n4, 0, none⟩ (.bool b4)).setCell ⟨n4, 1, none⟩ v3).cell? ⟨n5, 0, none⟩ = some (.bool false) ∧ ((w4.setCell ⟨n4, 0, none⟩ (.bool b4)).setCell ⟨n4, 1, none⟩ v3).frozen? ⟨n5, 0, none⟩ = false ∧ (((w4.setCell ⟨n4, 0, none⟩ (.bool b4)).setCell ⟨n4, 1, none⟩ v3).setCell ⟨n5, 0, none⟩ (.bool false)).cell? ⟨n5, 1, none⟩ = some (.slice none 0 0) ∧ (((w4.setCell ⟨n4, 0, none⟩ (.bool b4)).setCell ⟨n4, 1, none⟩ v3).setCell ⟨n5, 0, none⟩ (.bool false)).frozen? ⟨n5, 1, none⟩ = false ∧
   ((((w4.setCell ⟨n4, 0, none⟩ (.bool b4)).setCell ⟨n4, 1, none⟩ v3).setCell ⟨n5, 0, none⟩ (.bool false)).setCell ⟨n5, 1, none⟩ v4).heap[n4]? = some (.cells #[.bool b4, v3] 56 (0, 0)) ∧ ((((w4.setCell ⟨n4, 0, none⟩ (.bool b4)).setCell ⟨n4, 1, none⟩ v3).setCell ⟨n5, 0, none⟩ (.bool false)).setCell ⟨n5, 1, none⟩ v4).heap[n5]? = some (.cells #[.bool false, v4] 56 (0, 0)) := by
 have F4 : (w4.setCell ⟨n4, 0, none⟩ (.bool b4)).heap[n4]? = some (.cells #[.bool b4, .slice none 0 0] 56 (0, 0)) := blk_put (cs := #[.bool false, .slice none 0 0]) E4 0 _ rfl
 have F4b : ((w4.setCell ⟨n4, 0, none⟩ (.bool b4)).setCell ⟨n4, 1, none⟩ v3).heap[n4]? = some (.cells #[.bool b4, v3] 56 (0, 0)) := blk_put (cs := #[.bool b4, .slice none 0 0]) F4 1 _ rfl
 have G5 : ((w4.setCell ⟨n4, 0, none⟩ (.bool b4)).setCell ⟨n4, 1, none⟩ v3).heap[n5]? = some (.cells #[.bool false, .slice none 0 0] 56 (0, 0)) := (Below.heap_setCell _ ⟨n4, 1, none⟩ _ n5 hne).trans ((Below.heap_setCell _ ⟨n4, 0, none⟩ _ n5 hne).trans E5)
 have G5b : (((w4.setCell ⟨n4, 0, none⟩ (.bool b4)).setCell ⟨n4, 1, none⟩ v3).setCell ⟨n5, 0, none⟩ (.bool false)).heap[n5]? = some (.cells #[.bool false, .slice none 0 0] 56 (0, 0)) := blk_put (cs := #[.bool false, .slice none 0 0]) G5 0 _ rfl
 have G5c : ((((w4.setCell ⟨n4, 0, none⟩ (.bool b4)).setCell ⟨n4, 1, none⟩ v3).setCell ⟨n5, 0, none⟩ (.bool false)).setCell ⟨n5, 1, none⟩ v4).heap[n5]? = some (.cells #[.bool false, v4] 56 (0, 0)) := blk_put (cs := #[.bool false, .slice none 0 0]) G5b 1 _ rfl
 have F8 : ((((w4.setCell ⟨n4, 0, none⟩ (.bool b4)).setCell ⟨n4, 1, none⟩ v3).setCell ⟨n5, 0, none⟩ (.bool false)).setCell ⟨n5, 1, none⟩ v4).heap[n4]? = some (.cells #[.bool b4, v3] 56 (0, 0)) := (Below.heap_setCell _ ⟨n5, 1, none⟩ _ n4 (Ne.symm hne)).trans ((Below.heap_setCell _ ⟨n5, 0, none⟩ _ n4 (Ne.symm hne)).trans F4b)
 exact ⟨cell_blk E4 rfl, blk_frozen E4 _, cell_blk F4 rfl, blk_frozen F4 _, cell_blk G5 rfl, blk_frozen G5 _, cell_blk G5b rfl, blk_frozen G5b _, F8, G5c⟩
theorem results_cct {P : Program} {fn : Func} {p1 p2 t3 : Tmp} {ty : TypeId} (h : fn.results = #[.cell p1 ty, .cell p2 ty, .tmp t3]) (tmps : Array Value) (w : World) (g1 g2 : Nat) (t : TypeId) (cs1 cs2 : Array Value) (fr : Nat × Nat) (d : TypeDesc)
   (hp1 : tmps.getD p1 undef = .pointer (some ⟨g1, 0, none⟩)) (hp2 : tmps.getD p2 undef = .pointer (some ⟨g2, 0, none⟩)) (hg1 : w.heap[g1]? = some (.cells cs1 t fr)) (hg2 : w.heap[g2]? = some (.cells cs2 t fr))
   (hu : P.underlying ty = some d) (hd : (match d with | .struct _ | .array _ _ => true | _ => false) = true) (hi1 : (P.info? ty).map (·.size) = some cs1.size) (hi2 : (P.info? ty).map (·.size) = some cs2.size) :
   (results fn tmps).run P w = .ok (.tuple #[.agg cs1, .agg cs2, tmps.getD t3 undef]) w := by
 have hp1' : tmps[p1]?.getD undef = .pointer (some ⟨g1, 0, none⟩) := by simpa using hp1
 have hp2' : tmps[p2]?.getD undef = .pointer (some ⟨g2, 0, none⟩) := by simpa using hp2
 simp [results, h, hp1', hp2', asAddr, run_loadVar_row w g1 t ty cs1 fr d hg1 hu hd hi1, run_loadVar_row w g2 t ty cs2 fr d hg2 hu hd hi2]
theorem imk1 (q : Int) (hmq : integer_Make.f 5 false [q] = some (false, [q])) (A : Option Addr) (c : Nat) (w : World) (h : Kd.C (Kd.int .u32) w A 1 [q]) (hc : 1 ≤ c) :
   Calls Tryd.prog 65 #[.bool false, .slice A 1 c] w fun e w' => ∃ v1_ : Value, e = .returned (.agg #[.bool false, v1_]) ∧ Kd.R (Kd.int .u32) 22 w' w.heap.size (fun _ => True) v1_ [q] ∧ Below w.heap.size w w' :=
 integer_Make.calls 5 false A c [q] false [q] w h hc hmq
theorem idm_pos (x q r : Int) (hD : D7 x q r) (rr : List Int) (hrr : nat_Make.f 5 [r] = some rr) (hr2 : integer_Make.f 5 false rr = some (false, rr)) (A0 A1 : Option Addr) (c0 c1 : Nat) (w : World) (h0 : Kd.C (Kd.int .u32) w A0 1 [x]) (hc0 : 1 ≤ c0) (h1 : Kd.C (Kd.int .u32) w A1 1 [7]) (hc1 : 1 ≤ c1) :
   Calls Tryd.prog 52 #[.agg #[.bool false, .slice A0 1 c0], .agg #[.bool false, .slice A1 1 c1]] w fun e w' => ∃ qb Aq nq cq v, e = .returned (.tuple #[.agg #[.bool qb, .slice Aq nq cq], .agg #[.bool false, v], .int .i64 0]) ∧ CV w' v rr ∧ Below w.heap.size w w' := by
 have hmq : integer_Make.f 5 false [q] = some (false, [q]) := by rcases hD with ⟨rfl, rfl, rfl⟩ | ⟨rfl, rfl, rfl⟩ <;> kernel_rfl
 have H0 := am h0
 have H1 := am h1
 have HR2 := am hr2
 clear h0 h1 hr2
 go_enter Tryd.func52, Tryd.ntmps52
 go_wp2_with (first | (go_at_call 67; obtain ⟨b2, b3, b4, b5, hB0⟩ := boxes4 w #[.bool false, .slice A0 1 c0] #[.bool false, .slice A1 1 c1] #[.bool false, .slice none 0 0] #[.bool false, .slice none 0 0] 56; (with_reducible refine (div67_ge x q r hD rr hrr A0 A1 c0 c1 _ (Kd.C_below H0.out hB0) hc0 (Kd.C_below H1.out hB0) hc1).mono ?_); rintro e w2 ⟨v0, v1, rfl, ⟨Aq, cq, rfl, hlq, hCq⟩, ⟨Ar, cr, rfl, hlr, hCr⟩, hb⟩; have C2 := blk_below b2 hb; have C3 := blk_below b3 hb; have C4 := am (blk_below b4 hb); have C5 := am (blk_below b5 hb); have hc20 : w2.cell? ⟨w.heap.size, 0, none⟩ = some (.bool false) := cell_blk C2 rfl; have hc30 : w2.cell? ⟨w.heap.size + 1, 0, none⟩ = some (.bool false) := cell_blk C3 rfl; have HCq : Aside0 (Kd.C (Kd.int .u32) w2 Aq 1 [q]) := ⟨hCq⟩; have hlq1 : 1 ≤ cq := hlq; have HCr := am hCr; have HB2 := am (below_step hB0 hb); clear hCq hCr hb C2 C3 b2 b3 b4 b5 hB0) | (go_at_call 65; (with_reducible refine (imk1 q hmq Aq cq _ HCq.out hlq1).mono ?_); rintro e w3 ⟨v3, rfl, hR3, hb3⟩; have D4 := am (blk_below C4.out hb3); have D5 := am (blk_below C5.out hb3); have HCr3 := am (Kd.C_below HCr.out hb3); have HB3 := am (below_step HB2.out hb3); obtain ⟨A3, c3, e3, l3, hC3⟩ := Kd.R_reads hR3; subst e3; clear hR3 hb3 hC3) | (go_at_call 65; (with_reducible refine (integer_Make.calls 5 false Ar cr rr false rr _ HCr3.out hlr HR2.out).mono ?_); rintro e w4 ⟨v4, rfl, hR4, hb4⟩; have E4 := blk_below D4.out hb4; have E5 := blk_below D5.out hb4; have HB4 := am (below_step HB3.out hb4); obtain ⟨A4, c4, e4, l4, hC4⟩ := Kd.R_reads hR4; subst e4; have HC4 := am hC4; obtain ⟨f1, f2, f3, f4, f5, f6, f7, f8, f9, f10⟩ := stores4 (n4 := w.heap.size + 1 + 1) (n5 := w.heap.size + 1 + 1 + 1) (by omega) false (.slice A3 1 c3) (.slice A4 rr.length c4) E4 E5; have F9 := am f9; have F10 := am f10; clear hR4 hb4 hC4 f9 f10 E4 E5))
 refine bodyPost_ret (results_cct rfl _ _ _ _ 56 _ _ (0, 0) _ rfl rfl F9.out F10.out Tryd.underlying56 rfl (by kernel_rfl) (by kernel_rfl)) rfl ?_
 refine ⟨_, _, _, _, .slice A4 rr.length c4, rfl, ?_, below_set (below_set (below_set (below_set HB4.out ?_) ?_) ?_) ?_⟩
 · exact CV_put (CV_put (CV_put (CV_put ⟨A4, c4, rfl, l4, HC4.out⟩ f1 (fun _ => by simp) _) f3 (fun _ => by simp) _) f5 (fun _ => by simp) _) f7 (fun _ => by simp) _
 all_goals (show w.heap.size ≤ _; omega)
theorem rfl_t : integer_Make.f 5 true [1] = some (true, [1]) := by kernel_rfl
theorem rfl_f : integer_Make.f 5 false [6] = some (false, [6]) := by kernel_rfl
theorem one_lit (w : World) : Calls Tryd.prog 69 #[] w fun e w' => ∃ A c, e = .returned (.slice A 1 c) ∧ 1 ≤ c ∧ Kd.C (Kd.int .u32) w' A 1 [1] ∧ Below w.heap.size w w' :=
 (integer_one.calls [1] w rfl).mono (by
   rintro e w' ⟨v, rfl, hR, hb⟩
   obtain ⟨A, c, rfl, hl, hC⟩ := Kd.R_reads hR
   exact ⟨A, c, rfl, hl, hC, hb⟩)
theorem add_lit (A0 : Option Addr) (c0 : Nat) (A1 : Option Addr) (c1 : Nat) (w : World) (h0 : Kd.C (Kd.int .u32) w A0 0 []) (h1 : Kd.C (Kd.int .u32) w A1 1 [1]) (hc1 : 1 ≤ c1) :
   Calls Tryd.prog 68 #[.slice A0 0 c0, .slice A1 1 c1] w fun e w' => ∃ A c, e = .returned (.slice A 1 c) ∧ 1 ≤ c ∧ Kd.C (Kd.int .u32) w' A 1 [1] ∧ Below w.heap.size w w' :=
 (nat_Add.calls 9 A0 c0 [] A1 c1 [1] [1] w h0 (Nat.zero_le _) h1 hc1 (by kernel_rfl)).mono (by
   rintro e w' ⟨v, rfl, hR, hb⟩
   obtain ⟨A, c, rfl, hl, hC⟩ := Kd.R_reads hR
   exact ⟨A, c, rfl, hl, hC, hb⟩)
theorem sub_lit (A0 : Option Addr) (c0 : Nat) (A1 : Option Addr) (c1 : Nat) (w : World) (h0 : Kd.C (Kd.int .u32) w A0 1 [7]) (hc0 : 1 ≤ c0) (h1 : Kd.C (Kd.int .u32) w A1 1 [1]) (hc1 : 1 ≤ c1) :
   Calls Tryd.prog 70 #[.slice A0 1 c0, .slice A1 1 c1] w fun e w' => ∃ A c, e = .returned (.tuple #[.slice A 1 c, .bool true]) ∧ 1 ≤ c ∧ Kd.C (Kd.int .u32) w' A 1 [6] ∧ Below w.heap.size w w' :=
 (nat_Sub.calls 9 A0 c0 [7] A1 c1 [1] [6] true w h0 hc0 h1 hc1 (by kernel_rfl)).mono (by
   rintro e w' ⟨v, rfl, hR, hb⟩
   obtain ⟨A, c, rfl, hl, hC⟩ := Kd.R_reads hR
   exact ⟨A, c, rfl, hl, hC, hb⟩)
theorem mk_lit (b : Bool) (x : Int) (hm : integer_Make.f 5 b [x] = some (b, [x])) (A : Option Addr) (c : Nat) (w : World) (h : Kd.C (Kd.int .u32) w A 1 [x]) (hc : 1 ≤ c) :
   Calls Tryd.prog 65 #[.bool b, .slice A 1 c] w fun e w' => ∃ A' c', e = .returned (.agg #[.bool b, .slice A' 1 c']) ∧ 1 ≤ c' ∧ Kd.C (Kd.int .u32) w' A' 1 [x] ∧ Below w.heap.size w w' :=
 (integer_Make.calls 5 b A c [x] b [x] w h hc hm).mono (by
   rintro e w' ⟨v, rfl, hR, hb⟩
   obtain ⟨A, c, rfl, hl, hC⟩ := Kd.R_reads hR
   exact ⟨A, c, rfl, hl, hC, hb⟩)
theorem div_lit (A0 A1 : Option Addr) (c0 c1 : Nat) (w : World) (h0 : Kd.C (Kd.int .u32) w A0 1 [1]) (hc0 : 1 ≤ c0) (h1 : Kd.C (Kd.int .u32) w A1 1 [7]) (hc1 : 1 ≤ c1) :
   Calls Tryd.prog 67 #[.slice A0 1 c0, .slice A1 1 c1] w fun e w' => ∃ Aq cq Ar cr, e = .returned (.tuple #[.slice Aq 0 cq, .slice Ar 1 cr, .int .i64 0]) ∧ Kd.C (Kd.int .u32) w' Aq 0 [] ∧ 1 ≤ cr ∧ Kd.C (Kd.int .u32) w' Ar 1 [1] ∧ Below w.heap.size w w' :=
 (div67_lt A0 A1 c0 c1 w h0 hc0 h1 hc1).mono (by
   rintro e w' ⟨v0, v1, rfl, ⟨Aq, cq, rfl, hlq, hCq⟩, ⟨Ar, cr, rfl, hlr, hCr⟩, hb⟩
   exact ⟨Aq, cq, Ar, cr, rfl, hCq, hlr, hCr, hb⟩)
theorem idm_neg (A0 A1 : Option Addr) (c0 c1 : Nat) (w : World) (h0 : Kd.C (Kd.int .u32) w A0 1 [1]) (hc0 : 1 ≤ c0) (h1 : Kd.C (Kd.int .u32) w A1 1 [7]) (hc1 : 1 ≤ c1) :
   Calls Tryd.prog 52 #[.agg #[.bool true, .slice A0 1 c0], .agg #[.bool false, .slice A1 1 c1]] w fun e w' => ∃ qb Aq nq cq v, e = .returned (.tuple #[.agg #[.bool qb, .slice Aq nq cq], .agg #[.bool false, v], .int .i64 0]) ∧ CV w' v [6] ∧ Below w.heap.size w w' := by
 have H0 := am h0
 have H1 := am h1
 clear h0 h1
 go_enter Tryd.func52, Tryd.ntmps52
 go_wp2_with (first | (go_at_call 67; obtain ⟨b2, b3, b4, b5, hB0⟩ := boxes4 w #[.bool true, .slice A0 1 c0] #[.bool false, .slice A1 1 c1] #[.bool false, .slice none 0 0] #[.bool false, .slice none 0 0] 56; (with_reducible refine (div_lit A0 A1 c0 c1 _ (Kd.C_below H0.out hB0) hc0 (Kd.C_below H1.out hB0) hc1).mono ?_); rintro e w2 ⟨Aq, cq, Ar, cr, rfl, hCq, hlr, hCr, hb⟩; have C2 := blk_below b2 hb; have C3 := am (blk_below b3 hb); have C4 := am (blk_below b4 hb); have C5 := am (blk_below b5 hb); have hc20 : w2.cell? ⟨w.heap.size, 0, none⟩ = some (.bool true) := cell_blk C2 rfl; have HCq := am hCq; have HCr := am hCr; have HB2 := am (below_step hB0 hb); have H1b := am (Kd.C_below (Kd.C_below H1.out hB0) hb); have C2' := am C2; clear hCq hCr hb C2 b2 b3 b4 b5 hB0) | (go_at_call 69; (with_reducible refine (one_lit _).mono ?_); rintro e w3 ⟨Ao, co, rfl, hlo, hCo, hb⟩; have HCo := am hCo; have HCq3 := am (Kd.C_below HCq.out hb); have HB3 := am hb; clear hCo hb) | (go_at_call 68; (with_reducible refine (add_lit Aq cq Ao co _ HCq3.out HCo.out hlo).mono ?_); rintro e w4 ⟨As, cs, rfl, hls, hCs, hb⟩; have HB24 := am (below_step HB3.out hb); have D2 := am (blk_below C2'.out HB24.out); have D3 := am (blk_below C3.out HB24.out); have D4 := am (blk_below C4.out HB24.out); have D5 := am (blk_below C5.out HB24.out); have hd31 : w4.cell? ⟨w.heap.size + 1, 1, none⟩ = some (.slice A1 1 c1) := cell_blk D3.out rfl; have HCs := am hCs; have HCr4 := am (Kd.C_below HCr.out HB24.out); have H1c := am (Kd.C_below H1b.out HB24.out); have HB4 := am (below_step HB2.out HB24.out); clear hCs hb) | (go_at_call 70; (with_reducible refine (sub_lit A1 c1 Ar cr _ H1c.out hc1 HCr4.out hlr).mono ?_); rintro e w5 ⟨Ad, cd, rfl, hld, hCd, hb⟩; have E2 := blk_below D2.out hb; have E3 := blk_below D3.out hb; have hd20 : w5.cell? ⟨w.heap.size, 0, none⟩ = some (.bool true) := cell_blk E2 rfl; have hd30 : w5.cell? ⟨w.heap.size + 1, 0, none⟩ = some (.bool false) := cell_blk E3 rfl; have E4 := am (blk_below D4.out hb); have E5 := am (blk_below D5.out hb); have HCd := am hCd; have HCs5 := am (Kd.C_below HCs.out hb); have HB5 := am (below_step HB4.out hb); clear hCd hb E2 E3) | (go_at_call 65; (with_reducible refine (mk_lit true 1 rfl_t As cs _ HCs5.out hls).mono ?_); rintro e w6 ⟨A6, c6, rfl, hl6, hC6, hb⟩; have G4 := am (blk_below E4.out hb); have G5 := am (blk_below E5.out hb); have HCd6 := am (Kd.C_below HCd.out hb); have HB6 := am (below_step HB5.out hb); clear hC6 hb) | (go_at_call 65; (with_reducible refine (mk_lit false 6 rfl_f Ad cd _ HCd6.out hld).mono ?_); rintro e w7 ⟨A7, c7, rfl, hl7, hC7, hb⟩; have HB7 := am (below_step HB6.out hb); have HC7 := am hC7; obtain ⟨f1, f2, f3, f4, f5, f6, f7, f8, f9, f10⟩ := stores4 (n4 := w.heap.size + 1 + 1) (n5 := w.heap.size + 1 + 1 + 1) (by omega) true (.slice A6 1 c6) (.slice A7 1 c7) (blk_below G4.out hb) (blk_below G5.out hb); have F9 := am f9; have F10 := am f10; clear hb hC7 f9 f10))
 refine bodyPost_ret (results_cct rfl _ _ _ _ 56 _ _ (0, 0) _ rfl rfl F9.out F10.out Tryd.underlying56 rfl (by kernel_rfl) (by kernel_rfl)) rfl ?_
 refine ⟨_, _, _, _, .slice A7 1 c7, rfl, ?_, below_set (below_set (below_set (below_set HB7.out ?_) ?_) ?_) ?_⟩
 · exact CV_put (CV_put (CV_put (CV_put (show CV w7 (.slice A7 1 c7) [6] from ⟨A7, c7, rfl, hl7, HC7.out⟩) f1 (fun _ => by simp) _) f3 (fun _ => by simp) _) f5 (fun _ => by simp) _) f7 (fun _ => by simp) _
 all_goals (show w.heap.size ≤ _; omega)
def D3 : List S56 := [⟨true, [1]⟩, ⟨false, [9]⟩, ⟨false, [14]⟩]
structure RS (w w' : World) (gO gM : Nat) (A7 : Option Addr) (c7 : Nat) (x0 x1 x2 : Int) : Prop where
 b : Below w.heap.size w w'
 o : w'.heap[gO]? = some (.cells #[.int .u32 x0, .int .u32 x1, .int .u32 x2] 22 (0, 0))
 m : w'.heap[gM]? = some (.cells #[.bool false, .slice A7 1 c7] 56 (0, 0))
 r : Kd.R (Kd.int .u32) 22 w' (gO + 1) (fun _ => True) (.slice A7 1 c7) [7]
 lo : w.heap.size ≤ gO
 lm : gO < gM
theorem RS.below {w w1 w2 : World} {gO gM : Nat} {A7 : Option Addr} {c7 : Nat} {x0 x1 x2 : Int} (h : RS w w1 gO gM A7 c7 x0 x1 x2) (hb : Below w1.heap.size w1 w2) : RS w w2 gO gM A7 c7 x0 x1 x2 :=
 ⟨below_step h.b hb, blk_below h.o hb, blk_below h.m hb, Kd.R_below h.r hb, h.lo, h.lm⟩
theorem RS.set {w w1 : World} {gO gM : Nat} {A7 : Option Addr} {c7 : Nat} {x0 x1 x2 : Int} (h : RS w w1 gO gM A7 c7 x0 x1 x2) (i : Nat) (y0 y1 y2 v : Int) (hi : (#[Value.int .u32 x0, .int .u32 x1, .int .u32 x2]).setIfInBounds i (.int .u32 v) = #[.int .u32 y0, .int .u32 y1, .int .u32 y2]) :
   RS w (w1.setCell ⟨gO, i, none⟩ (.int .u32 v)) gO gM A7 c7 y0 y1 y2 := by
 refine ⟨below_set h.b h.lo, blk_put h.o i _ hi, blk_far h.m (by have := h.lm; show gM ≠ gO; omega) _, ?_, h.lo, h.lm⟩
 exact Kd.R_mono (Kd.R_far (p := ⟨gO, i, none⟩) (Kd.R_bound h.r) (fun _ hk => fun e => by have := hk.2.1; have e2 : _ = gO := e; omega) _) (fun _ _ => trivial)
theorem RS.c {w w1 : World} {gO gM : Nat} {A7 : Option Addr} {c7 : Nat} {x0 x1 x2 : Int} (h : RS w w1 gO gM A7 c7 x0 x1 x2) : Kd.C (Kd.int .u32) w1 A7 1 [7] ∧ 1 ≤ c7 := ⟨(Kd.R_reads' h.r).2.2, (Kd.R_reads' h.r).2.1⟩
theorem d7a : D7 9 1 2 := .inl ⟨rfl, rfl, rfl⟩
theorem d7b : D7 14 2 0 := .inr ⟨rfl, rfl, rfl⟩
theorem drawn_below {w w1 : World} (h : Drawn0 w w1) : Below w.heap.size w w1 := by
 obtain ⟨n, rfl⟩ := h
 exact pw_below_drewN (Below.refl _ _) n
theorem RS.out3 {w w1 : World} {gO gM : Nat} {A7 : Option Addr} {c7 : Nat} {x0 x1 x2 : Int} (h : RS w w1 gO gM A7 c7 x0 x1 x2) : Kd.C (Kd.int .u32) w1 (some ⟨gO, 0, none⟩) ([x0, x1, x2] : List Int).length [x0, x1, x2] := by
 have hR : (Kd.int .u32).R 22 w1 gO (fun _ => True) (.slice (some ⟨gO, 0, none⟩) 3 3) [x0, x1, x2] := Kd.R_of_own ⟨rfl, .inr ⟨gO, 3, #[.int .u32 x0, .int .u32 x1, .int .u32 x2], rfl, Nat.le_refl _, h.o, Nat.le_refl _, by decide, rfl, rfl⟩⟩ (fun _ _ => trivial)
 exact (Kd.R_reads' hR).2.2
theorem make_three (w : World) : (Instr.makeSlice 23 (.int .i64 3) (.int .i64 3)).run Tryd.prog w = .ok (.slice (some ⟨w.heap.size, 0, none⟩) 3 3) (w.alloc (.cells #[.int .u32 0, .int .u32 0, .int .u32 0] 22)) := by
 have h := run_make_row' (P := Tryd.prog) 23 22 (.int .u32 0) 4 Tryd.underlying23 info22 rfl .i64 .i64 3 (by decide) (by decide) w
 rw [show madeCells #[Value.int .u32 0] 3 = #[Value.int .u32 0, .int .u32 0, .int .u32 0] from by
   simp only [madeCells, Array.ext_iff]
   refine ⟨by simp, fun i h1 h2 => ?_⟩
   have h3 : i < 3 := by simpa using h2
   match i, h3 with
   | 0, _ => simp
   | 1, _ => simp
   | 2, _ => simp] at h
 exact h
attribute [local go_sem] make_three
theorem reduce7 (A0 : Option Addr) (c0 : Nat) (w : World) (h0 : Kd.C k56 w A0 3 D3) : Calls Tryd.prog 27 #[.slice A0 3 c0, .int .u32 7] w fun e w' => ∃ v, e = .returned v ∧ CV w' v [6, 2] ∧ Below w.heap.size w w' := by
 have hu56 := Tryd.underlying56
 obtain ⟨ad, B0, d0, e0, x00, x01, m0, i0⟩ := at_T56 h0 0 (by decide) (by decide)
 cases e0
 obtain ⟨ad1, B1, d1, e1, x10, x11, m1, i1⟩ := at_T56 h0 1 (by decide) (by decide)
 injection e1 with e1
 subst e1
 obtain ⟨ad2, B2, d2, e2, x20, x21, m2, i2⟩ := at_T56 h0 2 (by decide) (by decide)
 injection e2 with e2
 subst e2
 obtain ⟨b, o, sp⟩ := ad
 have hsp : sp = none := by have h_ := World.cell?_spot x00; rw [show (⟨b, o, sp⟩ : Addr).add (Int.toNat 0 * 2) = ⟨b, o, sp⟩ from rfl] at h_; exact h_
 subst hsp
 have X : Aside0 (w.cell? ⟨b, o, none⟩ = some (.bool true) ∧ w.cell? ⟨b, o + 1, none⟩ = some (.slice B0 1 d0) ∧ w.cell? ⟨b, o + 2, none⟩ = some (.bool false) ∧ w.cell? ⟨b, o + 3, none⟩ = some (.slice B1 1 d1) ∧ w.cell? ⟨b, o + 4, none⟩ = some (.bool false) ∧ w.cell? ⟨b, o + 5, none⟩ = some (.slice B2 1 d2)) := by
   refine ⟨?_, ?_, ?_, ?_, ?_, ?_⟩
   · exact x00
   · exact x01
   · exact x10
   · exact x11
   · exact x20
   · exact x21
 have I0 := am (show Kd.C (Kd.int .u32) w B0 1 [1] ∧ 1 ≤ d0 from ⟨i0, m0⟩)
 have I1 := am (show Kd.C (Kd.int .u32) w B1 1 [9] ∧ 1 ≤ d1 from ⟨i1, m1⟩)
 have I2 := am (show Kd.C (Kd.int .u32) w B2 1 [14] ∧ 1 ≤ d2 from ⟨i2, m2⟩)
 clear h0 x00 x01 x10 x11 x20 x21 m0 i0 m1 i1 m2 i2
 go_enter Tryd.func27, Tryd.ntmps27
 go_wp2_with (first | ((with_reducible refine gate_callee (f := 51) rfl ?_); refine goesA (some 19) Tryd.func51 #[.int .i64 7] ?_; (with_reducible refine (integer_Of.calls 60 7 false [7] _ (by kernel_rfl)).mono ?_); rintro e w1 ⟨v7, rfl, hR7, hb7⟩; refine ⟨_, rfl, ?_⟩; have HR7 := am hR7; have HB7 := am hb7; clear hR7 hb7; obtain ⟨A7, c7, e7⟩ := Kd.R_slice HR7.out; subst e7))
 have HS : Aside0 (RS w (w1.alloc (.cells #[.bool false, .slice A7 1 c7] 56)) w.heap.size w1.heap.size A7 c7 0 0 0) := by
   have ha : w1.heap[w.heap.size]? = some (.cells #[.int .u32 0, .int .u32 0, .int .u32 0] 22 (0, 0)) := blk_below (aI_new w _) HB7.out
   have hb : Below w1.heap.size w1 (w1.alloc (.cells #[.bool false, .slice A7 1 c7] 56))   := below_alloc (Below.refl _ _) _
   refine ⟨⟨below_step (below_step (below_alloc (Below.refl _ _) _) HB7.out) hb, blk_below ha hb, ?_, ?_, Nat.le_refl _, blk_lt ha⟩⟩
   · exact aI_new w1 _
   · have h_ := HR7.out
     rw [aI_size] at h_
     exact Kd.R_below h_ hb
 generalize (w1.alloc (.cells #[.bool false, .slice A7 1 c7] 56)) = W0 at HS ⊢
 generalize w1.heap.size = gM at HS ⊢
 clear HR7 HB7
 refine wp_loop_rounds 4 ?_
 rw [rounds_succ]
 have q0 := (HS.out.b.cell (World.block_lt_of_cell? w _ X.out.1)).trans X.out.1
 have q1 := (HS.out.b.cell (World.block_lt_of_cell? w _ X.out.2.1)).trans X.out.2.1
 have q2 : (W0.alloc (.cells #[.bool true, .slice B0 1 d0] 56)).cell? ⟨gM, 0, none⟩ = some (.bool false) := (blk_cell (aI_old HS.out.m) 0).trans rfl
 have q3 : (W0.alloc (.cells #[.bool true, .slice B0 1 d0] 56)).cell? ⟨gM, 1, none⟩ = some (.slice A7 1 c7) := (blk_cell (aI_old HS.out.m) 1).trans rfl
 go_wp2_with (first | (go_at_call 52; have hc : Below W0.heap.size W0 (W0.alloc (.cells #[.bool true, .slice B0 1 d0] 56)) := below_alloc (Below.refl _ _) _; (with_reducible refine (idm_neg B0 A7 d0 c7 _ (Kd.C_below I0.out.1 (below_step HS.out.b hc)) I0.out.2 (RS.c (HS.out.below hc)).1 (RS.c (HS.out.below hc)).2).mono ?_); rintro e w5 ⟨qb, Aq, nq, cq, v5, rfl, ⟨A5, c5, rfl, l5, h5⟩, hb5⟩; have H5 := am h5; have HS5 := am ((HS.out.below hc).below hb5); clear hc h5 hb5 q0 q1 q2 q3 HS) | (go_at_call 53; have hc : Below w5.heap.size w5 ((w5.alloc (.cells #[.bool qb, .slice Aq nq cq] 56)).alloc (.cells #[.bool false, .slice A5 1 c5] 56)) := below_alloc (below_alloc (Below.refl _ _) _) _; (refine (show Calls Tryd.prog 53 #[.slice A5 1 c5] _ _ from nat_Low.calls 60 A5 c5 [6] 6 true _ (Kd.C_below H5.out hc) l5 (by kernel_rfl)).mono ?_); rintro e w6 ⟨rfl, hd6⟩; have HS := am ((HS5.out.below hc).below (drawn_below hd6)); clear hc hd6 HS5 H5; have q4 : w6.cell? ⟨w.heap.size, 0, none⟩ = some (.int .u32 0) := (blk_cell HS.out.o 0).trans rfl; have q5 : w6.frozen? ⟨w.heap.size, 0, none⟩ = false := blk_frozen HS.out.o _))
 have HS1 := am (HS.out.set 0 6 0 0 6 rfl)
 clear q4 q5 HS
 have HS := HS1
 clear HS1
 generalize w6.setCell ⟨w.heap.size, 0, none⟩ (.int .u32 6) = W1 at HS ⊢
 rw [rounds_succ]
 have q0 := (HS.out.b.cell (World.block_lt_of_cell? w _ X.out.2.2.1)).trans X.out.2.2.1
 have q1 := (HS.out.b.cell (World.block_lt_of_cell? w _ X.out.2.2.2.1)).trans X.out.2.2.2.1
 have q2 : (W1.alloc (.cells #[.bool false, .slice B1 1 d1] 56)).cell? ⟨gM, 0, none⟩ = some (.bool false) := (blk_cell (aI_old HS.out.m) 0).trans rfl
 have q3 : (W1.alloc (.cells #[.bool false, .slice B1 1 d1] 56)).cell? ⟨gM, 1, none⟩ = some (.slice A7 1 c7) := (blk_cell (aI_old HS.out.m) 1).trans rfl
 go_wp2_with (first | (go_at_call 52; have hc : Below W1.heap.size W1 (W1.alloc (.cells #[.bool false, .slice B1 1 d1] 56)) := below_alloc (Below.refl _ _) _; (with_reducible refine (idm_pos 9 1 2 d7a [2] (by kernel_rfl) (by kernel_rfl) B1 A7 d1 c7 _ (Kd.C_below I1.out.1 (below_step HS.out.b hc)) I1.out.2 (RS.c (HS.out.below hc)).1 (RS.c (HS.out.below hc)).2).mono ?_); rintro e w5 ⟨qb, Aq, nq, cq, v5, rfl, ⟨A5, c5, rfl, l5, h5⟩, hb5⟩; have H5 := am h5; have HS5 := am ((HS.out.below hc).below hb5); clear hc h5 hb5 q0 q1 q2 q3 HS) | (go_at_call 53; have hc : Below w5.heap.size w5 ((w5.alloc (.cells #[.bool qb, .slice Aq nq cq] 56)).alloc (.cells #[.bool false, .slice A5 1 c5] 56)) := below_alloc (below_alloc (Below.refl _ _) _) _; (refine (show Calls Tryd.prog 53 #[.slice A5 1 c5] _ _ from nat_Low.calls 60 A5 c5 [2] 2 true _ (Kd.C_below H5.out hc) l5 (by kernel_rfl)).mono ?_); rintro e w6 ⟨rfl, hd6⟩; have HS := am ((HS5.out.below hc).below (drawn_below hd6)); clear hc hd6 HS5 H5; have q4 : w6.cell? ⟨w.heap.size, 1, none⟩ = some (.int .u32 0) := (blk_cell HS.out.o 1).trans rfl; have q5 : w6.frozen? ⟨w.heap.size, 1, none⟩ = false := blk_frozen HS.out.o _))
 have HS1 := am (HS.out.set 1 6 2 0 2 rfl)
 clear q4 q5 HS
 have HS := HS1
 clear HS1
 generalize w6.setCell ⟨w.heap.size, 1, none⟩ (.int .u32 2) = W2 at HS ⊢
 rw [rounds_succ]
 have q0 := (HS.out.b.cell (World.block_lt_of_cell? w _ X.out.2.2.2.2.1)).trans X.out.2.2.2.2.1
 have q1 := (HS.out.b.cell (World.block_lt_of_cell? w _ X.out.2.2.2.2.2)).trans X.out.2.2.2.2.2
 have q2 : (W2.alloc (.cells #[.bool false, .slice B2 1 d2] 56)).cell? ⟨gM, 0, none⟩ = some (.bool false) := (blk_cell (aI_old HS.out.m) 0).trans rfl
 have q3 : (W2.alloc (.cells #[.bool false, .slice B2 1 d2] 56)).cell? ⟨gM, 1, none⟩ = some (.slice A7 1 c7) := (blk_cell (aI_old HS.out.m) 1).trans rfl
 go_wp2_with (first | (go_at_call 52; have hc : Below W2.heap.size W2 (W2.alloc (.cells #[.bool false, .slice B2 1 d2] 56)) := below_alloc (Below.refl _ _) _; (with_reducible refine (idm_pos 14 2 0 d7b [] (by kernel_rfl) (by kernel_rfl) B2 A7 d2 c7 _ (Kd.C_below I2.out.1 (below_step HS.out.b hc)) I2.out.2 (RS.c (HS.out.below hc)).1 (RS.c (HS.out.below hc)).2).mono ?_); rintro e w5 ⟨qb, Aq, nq, cq, v5, rfl, ⟨A5, c5, rfl, l5, h5⟩, hb5⟩; have H5 := am h5; have HS5 := am ((HS.out.below hc).below hb5); clear hc h5 hb5 q0 q1 q2 q3 HS) | (go_at_call 53; have hc : Below w5.heap.size w5 ((w5.alloc (.cells #[.bool qb, .slice Aq nq cq] 56)).alloc (.cells #[.bool false, .slice A5 0 c5] 56)) := below_alloc (below_alloc (Below.refl _ _) _) _; (refine (show Calls Tryd.prog 53 #[.slice A5 0 c5] _ _ from nat_Low.calls 60 A5 c5 [] 0 true _ (Kd.C_below H5.out hc) l5 (by kernel_rfl)).mono ?_); rintro e w6 ⟨rfl, hd6⟩; have HS := am ((HS5.out.below hc).below (drawn_below hd6)); clear hc hd6 HS5 H5; have q4 : w6.cell? ⟨w.heap.size, 2, none⟩ = some (.int .u32 0) := (blk_cell HS.out.o 2).trans rfl; have q5 : w6.frozen? ⟨w.heap.size, 2, none⟩ = false := blk_frozen HS.out.o _))
 have HS1 := am (HS.out.set 2 6 2 0 0 rfl)
 clear q4 q5 HS
 have HS := HS1
 clear HS1
 generalize w6.setCell ⟨w.heap.size, 2, none⟩ (.int .u32 0) = W3 at HS ⊢
 rw [rounds_succ]
 go_wp2_with (go_at_call 32; (refine (show Calls Tryd.prog 32 #[.slice (some ⟨w.heap.size, 0, none⟩) 3 3] _ _ from modp_trim.calls 60 _ (some ⟨w.heap.size, 0, none⟩) 3 [6, 2, 0] [6, 2] _ (V_of_C (RS.out3 HS.out) (Nat.le_refl _)) (by kernel_rfl)).mono ?_); rintro e w7 ⟨v7, rfl, h7, hb7⟩; have H7 := am h7; have HB := am (below_step HS.out.b hb7); clear h7 hb7)
 go_ret
 exact ⟨_, rfl, CV_of H7.out, HB.out⟩
end Go.Proofs.YtofbpjpdahcghaaDoor.Q
