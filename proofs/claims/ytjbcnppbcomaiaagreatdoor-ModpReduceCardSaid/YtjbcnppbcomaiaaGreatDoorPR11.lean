/-
  ModpReduce: what is made of polynomials with whole coefficients, and then taken modulo a prime, is made alike of what they are modulo it (the row, the walk and the plain words), part 11 of 13 (packed by pack.py from texts of this session).
-/
import Derived.Test.YtjbcnppbcomaiaaGreatDoorPR1
import Derived.Test.YtjbcnppbcomaiaaGreatDoorPR3
import Derived.Test.YtjbcnppbcomaiaaGreatDoorPR4
import Derived.Test.YtjbcnppbcomaiaaGreatDoorPR5
import Derived.Test.YtjbcnppbcomaiaaGreatDoorPR6
import Derived.Test.YtjbcnppbcomaiaaGreatDoorPR9
set_option maxRecDepth 100000
set_option maxHeartbeats 8000000
set_option linter.unusedVariables false
namespace Go.Proofs.YtjbcnppbcomaiaaGreatDoor.Q
open Go.RowKit Go.Proofs.YtjbcnppbcomaiaaGreatDoorW.PrintWords Go.Proofs.YtjbcnppbcomaiaaGreatDoorW.PrintLast Go.Proofs.YtjbcnppbcomaiaaGreatDoorW.PrintMore
set_option linter.unusedVariables false
set_option linter.unusedSimpArgs false
structure LS (w0 w : World) (L : List (Value × Row7)) : Prop where
 b : Below w0.heap.size w0 w
 g : GW w
 r : ∀ x ∈ L, RV w x.1 x.2
theorem LS.below {w0 w w1 : World} {L : List (Value × Row7)} (h : LS w0 w L) (hb : Below w.heap.size w w1) : LS w0 w1 L := ⟨below_step h.b hb, h.g.below hb, fun x hx => (h.r x hx).below hb⟩
theorem LS.more {w0 w w1 : World} {L : List (Value × Row7)} (h : LS w0 w L) (hb : Below w.heap.size w w1) {v : Value} {r : Row7} (hv : RV w1 v r) : LS w0 w1 ((v, r) :: L) :=
 ⟨below_step h.b hb, h.g.below hb, fun x hx => by
   rcases List.mem_cons.1 hx with rfl | hx
   · exact hv
   · exact (h.r x hx).below hb⟩
theorem LS.drawn {w0 w w1 : World} {L : List (Value × Row7)} (h : LS w0 w L) (hd : Drawn0 w w1) : LS w0 w1 L := by
 obtain ⟨n, rfl⟩ := hd
 exact h.below (pw_below_drewN (Below.refl _ _) n)
theorem LS.atU {w0 w : World} {L : List (Value × Row7)} (h : LS w0 w L) (i : Nat) (v : Value) (l : List Int) (hx : L[i]? = some (v, .u l)) : CV w v l := h.r (v, .u l) (List.mem_of_getElem? hx)
theorem LS.atF {w0 w : World} {L : List (Value × Row7)} (h : LS w0 w L) (i : Nat) (v : Value) (l : List S52) (hx : L[i]? = some (v, .f l)) : RV w v (.f l) := h.r (v, .f l) (List.mem_of_getElem? hx)
theorem LS.atI {w0 w : World} {L : List (Value × Row7)} (h : LS w0 w L) (i : Nat) (v : Value) (l : List S56) (hx : L[i]? = some (v, .i l)) : RV w v (.i l) := h.r (v, .i l) (List.mem_of_getElem? hx)
theorem LS.atB {w0 w : World} {L : List (Value × Row7)} (h : LS w0 w L) (i g : Nat) (cs : Array Value) (t : Nat) (hx : L[i]? = some (.pointer (some ⟨g, 0, none⟩), .b cs t)) : w.heap[g]? = some (.cells cs t (0, 0)) := by
 obtain ⟨g', e, hg⟩ := h.r (.pointer (some ⟨g, 0, none⟩), .b cs t) (List.mem_of_getElem? hx)
 injection e with e
 injection e with e
 injection e with e
 subst e
 exact hg
theorem LS.cell {w0 w : World} {L : List (Value × Row7)} (h : LS w0 w L) (i g : Nat) (cs : Array Value) (t : Nat) (hx : L[i]? = some (.pointer (some ⟨g, 0, none⟩), .b cs t)) (j : Nat) (v : Value) (hj : cs[j]? = some v) : w.cell? ⟨g, j, none⟩ = some v := by
 have hg := h.atB i g cs t hx
 simp [World.cell?, hg, hj]
variable {P : Program} {ops : Array Oper} {rest : List Oper} {o : Oper} {a : Act} {Q : Exit → Act → World → Prop}
theorem lit_u {w0 W : World} {L : List (Value × Row7)} (xs : List Int) (n : Nat) (hn : xs.length = n) (hm : n ≤ 100) (hgd : o.guard = none) {N : Tmp} (hd : o.dst = some N) (hS : LS w0 W L)
   (hrun : (execOp a.eval o).run P W = .ok (.value (.slice (some ⟨W.heap.size, 0, none⟩) n n)) (W.alloc (.cells (xs.map (Value.int .u32)).toArray 23)))
   (h : ∀ A w1, LS w0 w1 ((.slice A n n, .u xs) :: L) → wpList P ops Q rest (a.put o.dst (.slice A n n)) w1) : wpList P ops Q (o :: rest) a W := by
 subst hn
 exact Kd.event_run hgd hrun (h _ _ (hS.more (below_alloc (Below.refl _ _) _) ⟨_, _, rfl, Nat.le_refl _, C_block (Kd.int .u32) (alloc_at _ _) (reps_u _ xs) (by omega)⟩))
theorem lit_f {w0 W : World} {L : List (Value × Row7)} (xs : List S52) (n : Nat) (cs : List Value) (hn : xs.length = n) (hm : n ≤ 100) (hgd : o.guard = none) {N : Tmp} (hd : o.dst = some N) (hS : LS w0 W L)
   (hcs : Reps (k52.K W) 2 xs cs)
   (hrun : (execOp a.eval o).run P W = .ok (.value (.slice (some ⟨W.heap.size, 0, none⟩) n n)) (W.alloc (.cells cs.toArray 46)))
   (h : ∀ A w1, LS w0 w1 ((.slice A n n, .f xs) :: L) → wpList P ops Q rest (a.put o.dst (.slice A n n)) w1) : wpList P ops Q (o :: rest) a W := by
 subst hn
 refine Kd.event_run hgd hrun (h _ _ (hS.more (below_alloc (Below.refl _ _) _) ⟨_, _, rfl, Nat.le_refl _, C_block k52 (alloc_at _ _) (hcs.imp_ (fun p c hp => k52.K_below (below_alloc (Below.refl _ _) _) hp)) (by omega)⟩))
theorem lit_i {w0 W : World} {L : List (Value × Row7)} (xs : List S56) (n : Nat) (cs : List Value) (hn : xs.length = n) (hm : n ≤ 100) (hgd : o.guard = none) {N : Tmp} (hd : o.dst = some N) (hS : LS w0 W L)
   (hcs : Reps (k56.K W) 2 xs cs)
   (hrun : (execOp a.eval o).run P W = .ok (.value (.slice (some ⟨W.heap.size, 0, none⟩) n n)) (W.alloc (.cells cs.toArray 49)))
   (h : ∀ A w1, LS w0 w1 ((.slice A n n, .i xs) :: L) → wpList P ops Q rest (a.put o.dst (.slice A n n)) w1) : wpList P ops Q (o :: rest) a W := by
 subst hn
 refine Kd.event_run hgd hrun (h _ _ (hS.more (below_alloc (Below.refl _ _) _) ⟨_, _, rfl, Nat.le_refl _, C_block k56 (alloc_at _ _) (hcs.imp_ (fun p c hp => k56.K_below (below_alloc (Below.refl _ _) _) hp)) (by omega)⟩))
section calls
variable {w0 w : World} {L : List (Value × Row7)}
theorem cFactor (hS : LS w0 w L) (k : Nat) (l : List Int) (p r1 : Int) (r2 : List S52) (n n2 : Nat) (hn : l.length = n) (hn2 : r2.length = n2) (hp : p < 14) (hf : modp_Factor.f k l p = some (r1, r2)) (A : Option Addr) (c : Nat) (hm : CV w (.slice A n c) l) :
   Calls Tryz.prog 14 #[.slice A n c, .int .u32 p] w fun e w' => ∃ A' c', e = .returned (.tuple #[.int .u32 r1, .slice A' n2 c']) ∧ LS w0 w' ((.slice A' n2 c', .f r2) :: L) := by
 obtain ⟨e, hl, hC⟩ := hm.C
 subst e; subst hn2
 refine (modp_Factor.calls k A c l p r1 r2 w hS.g hp hC hl hf).mono ?_
 rintro e w' ⟨A', c', rfl, hc', hC', hb⟩
 exact ⟨A', c', rfl, hS.more hb ⟨A', c', rfl, hc', hC'⟩⟩
theorem cDivMod (hS : LS w0 w L) (k : Nat) (l m : List Int) (p : Int) (q r : List Int) (er : Int) (n1 n2 nq nr : Nat) (hq : q.length = nq) (hr : r.length = nr) (hf : modp_DivMod.f k l m p = some (q, r, er)) (A B : Option Addr) (c d : Nat) (hm1 : CV w (.slice A n1 c) l) (hm2 : CV w (.slice B n2 d) m) :
   Calls Tryz.prog 15 #[.slice A n1 c, .slice B n2 d, .int .u32 p] w fun e w' => ∃ A1 c1 A2 c2, e = .returned (.tuple #[.slice A1 nq c1, .slice A2 nr c2, .int .i64 er]) ∧ LS w0 w' ((.slice A1 nq c1, .u q) :: (.slice A2 nr c2, .u r) :: L) := by
 obtain ⟨e1, hl1, hC1⟩ := hm1.C
 obtain ⟨e2, hl2, hC2⟩ := hm2.C
 subst e1; subst e2; subst hq; subst hr
 refine (modp_DivMod.calls k A c l B d m p q r er w hC1 hl1 hC2 hl2 hf).mono ?_
 rintro e w' ⟨v0, v1, rfl, h0, h1, hb⟩
 obtain ⟨A1, c1, rfl, hl1, hC1⟩ := h0
 obtain ⟨A2, c2, rfl, hl2, hC2⟩ := h1
 exact ⟨A1, c1, A2, c2, rfl, (hS.more hb (r := .u r) ⟨A2, c2, rfl, hl2, hC2⟩).more (Below.refl _ _) (r := .u q) ⟨A1, c1, rfl, hl1, hC1⟩⟩
theorem cPowMod (hS : LS w0 w L) (k : Nat) (l m f : List Int) (p : Int) (r : List Int) (er : Int) (n1 n2 n3 nr : Nat) (hr : r.length = nr) (hf : modp_PowMod.f k l m f p = some (r, er)) (A B D : Option Addr) (c d g : Nat) (hm1 : CV w (.slice A n1 c) l) (hm2 : CV w (.slice B n2 d) m) (hm3 : CV w (.slice D n3 g) f) :
   Calls Tryz.prog 16 #[.slice A n1 c, .slice B n2 d, .agg #[.slice D n3 g, .int .u32 p]] w fun e w' => ∃ A1 c1, e = .returned (.tuple #[.slice A1 nr c1, .int .i64 er]) ∧ LS w0 w' ((.slice A1 nr c1, .u r) :: L) := by
 obtain ⟨e1, hl1, hC1⟩ := hm1.C
 obtain ⟨e2, hl2, hC2⟩ := hm2.C
 obtain ⟨e3, hl3, hC3⟩ := hm3.C
 subst e1; subst e2; subst e3; subst hr
 refine (modp_PowMod.calls k A c l B d m D g f p r er w hC1 hl1 hC2 hl2 hC3 hl3 hf).mono ?_
 rintro e w' ⟨v0, rfl, h0, hb⟩
 obtain ⟨A1, c1, rfl, hl1, hC1⟩ := h0
 exact ⟨A1, c1, rfl, hS.more hb (r := .u r) ⟨A1, c1, rfl, hl1, hC1⟩⟩
theorem cGcd (hS : LS w0 w L) (k : Nat) (l m : List Int) (p : Int) (r : List Int) (n1 n2 nr : Nat) (hr : r.length = nr) (hf : modp_Gcd.f k l m p = some r) (A B : Option Addr) (c d : Nat) (hm1 : CV w (.slice A n1 c) l) (hm2 : CV w (.slice B n2 d) m) :
   Calls Tryz.prog 17 #[.slice A n1 c, .slice B n2 d, .int .u32 p] w fun e w' => ∃ A1 c1, e = .returned (.slice A1 nr c1) ∧ LS w0 w' ((.slice A1 nr c1, .u r) :: L) := by
 obtain ⟨e1, hl1, hC1⟩ := hm1.C
 obtain ⟨e2, hl2, hC2⟩ := hm2.C
 subst e1; subst e2; subst hr
 refine (modp_Gcd.calls k A c l B d m p r w hC1 hl1 hC2 hl2 hf).mono ?_
 rintro e w' ⟨v0, rfl, h0, hb⟩
 obtain ⟨A1, c1, rfl, hl1, hC1⟩ := h0
 exact ⟨A1, c1, rfl, hS.more hb (r := .u r) ⟨A1, c1, rfl, hl1, hC1⟩⟩
theorem cSameAll (hS : LS w0 w L) (k : Nat) (l m : List S52) (n1 n2 : Nat) (hf : zigguratref14_SameAll.f k l m = some true) (A B : Option Addr) (c d : Nat) (hm1 : RV w (.slice A n1 c) (.f l)) (hm2 : RV w (.slice B n2 d) (.f m)) :
   Calls Tryz.prog 18 #[.slice A n1 c, .slice B n2 d] w fun e w' => e = .returned (.bool true) ∧ LS w0 w' L := by
 obtain ⟨e1, hl1, hC1⟩ := RVf.C hm1
 obtain ⟨e2, hl2, hC2⟩ := RVf.C hm2
 subst e1; subst e2
 exact (zigguratref14_SameAll.calls k A c l B d m true w hC1 hl1 hC2 hl2 hf).mono (fun e w' ⟨he, hd⟩ => ⟨he, hS.drawn hd⟩)
theorem cSame (hS : LS w0 w L) (k : Nat) (l m : List Int) (n1 n2 : Nat) (hf : zigguratref14_Same.f k l m = some true) (A B : Option Addr) (c d : Nat) (hm1 : CV w (.slice A n1 c) l) (hm2 : CV w (.slice B n2 d) m) :
   Calls Tryz.prog 9 #[.slice A n1 c, .slice B n2 d] w fun e w' => e = .returned (.bool true) ∧ LS w0 w' L := by
 obtain ⟨e1, hl1, hC1⟩ := hm1.C
 obtain ⟨e2, hl2, hC2⟩ := hm2.C
 subst e1; subst e2
 exact (zigguratref14_Same.calls k A c l B d m true w hC1 hl1 hC2 hl2 hf).mono (fun e w' ⟨he, hd⟩ => ⟨he, hS.drawn hd⟩)
theorem cIrred (hS : LS w0 w L) (k : Nat) (l : List Int) (p : Int) (r : Bool) (n : Nat) (hp : p < 14) (hf : modp_Irred.f k l p = some r) (A : Option Addr) (c : Nat) (hm1 : CV w (.slice A n c) l) :
   Calls Tryz.prog 19 #[.slice A n c, .int .u32 p] w fun e w' => e = .returned (.bool r) ∧ LS w0 w' L := by
 obtain ⟨e1, hl1, hC1⟩ := hm1.C
 subst e1
 exact (modp_Irred.calls k A c l p r w hS.g hp hC1 hl1 hf).mono (fun e w' ⟨he, hb⟩ => ⟨he, hS.below hb⟩)
theorem cPrime (hS : LS w0 w L) (k : Nat) (p : Int) (r : Bool) (hf : modp_Prime.f k p = some r) :
   Calls Tryz.prog 20 #[.int .u32 p] w fun e w' => e = .returned (.bool r) ∧ LS w0 w' L :=
 (modp_Prime.calls k p r w hf).mono (fun e w' ⟨he, hd⟩ => ⟨he, hS.drawn hd⟩)
theorem cRight (hS : LS w0 w L) (k : Nat) (l : List Int) (p : Int) (r : Bool) (n : Nat) (hf : modp_Right.f k l p = some r) (A : Option Addr) (c : Nat) (hm1 : CV w (.slice A n c) l) :
   Calls Tryz.prog 21 #[.slice A n c, .int .u32 p] w fun e w' => e = .returned (.bool r) ∧ LS w0 w' L := by
 obtain ⟨e1, hl1, hC1⟩ := hm1.C
 subst e1
 exact (modp_Right.calls k A c l p r w hC1 hl1 hf).mono (fun e w' ⟨he, hd⟩ => ⟨he, hS.drawn hd⟩)
theorem cRefOf (hS : LS w0 w L) (k : Nat) (x : Int) (b : Bool) (r : List Int) (nr : Nat) (hr : r.length = nr) (hf : zigguratref06_Of.f k x = some (b, r)) :
   Calls Tryz.prog 22 #[.int .i64 x] w fun e w' => ∃ A1 c1, e = .returned (.agg #[.bool b, .slice A1 nr c1]) ∧ LS w0 w' ((.slice A1 nr c1, .u r) :: L) := by
 subst hr
 refine (zigguratref06_Of.calls k x b r w hf).mono ?_
 rintro e w' ⟨v0, rfl, h0, hb⟩
 obtain ⟨A1, c1, rfl, hl1, hC1⟩ := Kd.R_reads h0
 exact ⟨A1, c1, rfl, hS.more hb (r := .u r) ⟨A1, c1, rfl, hl1, hC1⟩⟩
theorem cReduce7 (hS : LS w0 w L) (A : Option Addr) (c : Nat) (hm1 : RV w (.slice A 3 c) (.i [⟨true, [1]⟩, ⟨false, [9]⟩, ⟨false, [14]⟩])) :
   Calls Tryz.prog 7 #[.slice A 3 c, .int .u32 7] w fun e w' => ∃ A1 c1, e = .returned (.slice A1 2 c1) ∧ LS w0 w' ((.slice A1 2 c1, .u [6, 2]) :: L) := by
 obtain ⟨e1, hl1, hC1⟩ := RVi.C hm1
 refine (reduce7 A c w hC1 hl1).mono ?_
 rintro e w' ⟨v0, rfl, h0, hb⟩
 obtain ⟨A1, c1, rfl, hl1, hC1⟩ := h0
 exact ⟨A1, c1, rfl, hS.more hb (r := .u [6, 2]) ⟨A1, c1, rfl, hl1, hC1⟩⟩
end calls
end Go.Proofs.YtjbcnppbcomaiaaGreatDoor.Q
namespace Go.Proofs.YtjbcnppbcomaiaaGreatDoor.Q
open Go.RowKit
set_option maxRecDepth 100000
theorem v1 : modp_Factor.f 300 [1, 0, 1] 5 = some (1, [⟨[2, 1], 1⟩, ⟨[3, 1], 1⟩]) := by kernel_rfl
theorem v2 : modp_Factor.f 300 [2, 0, 0, 0, 2] 3 = some (2, [⟨[2, 1, 1], 1⟩, ⟨[2, 2, 1], 1⟩]) := by kernel_rfl
theorem v3 : modp_Factor.f 300 [0, 0, 1] 2 = some (1, [⟨[0, 1], 2⟩]) := by kernel_rfl
theorem v4 : modp_Factor.f 300 [] 7 = some (0, []) := by kernel_rfl
theorem v5 : modp_DivMod.f 60 [1, 2, 3] [4, 5] 7 = some ([3, 2], [3], 0) := by kernel_rfl
theorem v6 : modp_DivMod.f 60 [1] [] 7 = some ([], [], 3) := by kernel_rfl
theorem v7 : modp_PowMod.f 60 [0, 1] [5] [1, 0, 1] 7 = some ([0, 1], 0) := by kernel_rfl
theorem v8 : modp_PowMod.f 60 [1] [5] [3] 7 = some ([], 1) := by kernel_rfl
theorem v9 : modp_PowMod.f 60 [1] [5] [] 7 = some ([], 3) := by kernel_rfl
theorem v10 : modp_Gcd.f 60 [2, 3, 1] [3, 4, 1] 5 = some [1, 1] := by kernel_rfl
theorem v11 : zigguratref14_SameAll.f 60 [⟨[2, 1], 1⟩, ⟨[3, 1], 1⟩] [⟨[2, 1], 1⟩, ⟨[3, 1], 1⟩] = some true := by kernel_rfl
theorem v12 : zigguratref14_SameAll.f 60 [⟨[2, 1, 1], 1⟩, ⟨[2, 2, 1], 1⟩] [⟨[2, 1, 1], 1⟩, ⟨[2, 2, 1], 1⟩] = some true := by kernel_rfl
theorem v13 : zigguratref14_SameAll.f 60 [⟨[0, 1], 2⟩] [⟨[0, 1], 2⟩] = some true := by kernel_rfl
theorem v14 : zigguratref14_Same.f 60 [3, 2] [3, 2] = some true := by kernel_rfl
theorem v15 : zigguratref14_Same.f 60 [3] [3] = some true := by kernel_rfl
theorem v16 : zigguratref14_Same.f 60 [0, 1] [0, 1] = some true := by kernel_rfl
theorem v17 : zigguratref14_Same.f 60 [1, 1] [1, 1] = some true := by kernel_rfl
theorem v18 : modp_Irred.f 60 [1, 0, 1] 7 = some true := by kernel_rfl
theorem v19 : modp_Irred.f 60 [3] 7 = some false := by kernel_rfl
theorem v20 : modp_Prime.f 200 65521 = some true := by kernel_rfl
theorem v21 : modp_Prime.f 200 65537 = some false := by kernel_rfl
theorem v22 : modp_Prime.f 200 1 = some false := by kernel_rfl
theorem v23 : modp_Prime.f 200 2 = some true := by kernel_rfl
theorem v24 : modp_Right.f 60 [7] 7 = some false := by kernel_rfl
theorem v25 : modp_Right.f 60 [1, 0] 7 = some false := by kernel_rfl
theorem v26 : modp_Right.f 60 [] 7 = some true := by kernel_rfl
theorem v27 : zigguratref06_Of.f 60 (-1) = some (true, [1]) := by kernel_rfl
theorem v28 : zigguratref06_Of.f 60 9 = some (false, [9]) := by kernel_rfl
theorem v29 : zigguratref06_Of.f 60 14 = some (false, [14]) := by kernel_rfl
theorem v31 : zigguratref14_Same.f 60 [6, 2] [6, 2] = some true := by kernel_rfl
end Go.Proofs.YtjbcnppbcomaiaaGreatDoor.Q
namespace Go.Proofs.YtjbcnppbcomaiaaGreatDoor.Q
open Go.RowKit Go.Proofs.YtjbcnppbcomaiaaGreatDoorW.PrintWords Go.Proofs.YtjbcnppbcomaiaaGreatDoorW.PrintLast Go.Proofs.YtjbcnppbcomaiaaGreatDoorW.PrintMore
set_option linter.unusedVariables false
set_option linter.unusedSimpArgs false
theorem head_calls (w : World) (hG : GW w) : Calls Tryz.prog 4 #[] w fun e w' => e = .returned (.bool true) ∧ Below w.heap.size w w' := by
 have HS : Aside0 (LS w w []) := ⟨⟨Below.refl _ _, hG, fun x hx => by cases hx⟩⟩
 have hu42 := Tryz.underlying43
 have hu52 := Tryz.underlying46
 have hu56 := Tryz.underlying49
 clear hG
 go_enter Tryz.func4, Tryz.ntmps4
 (try simp only [List.append])
 go_wp2_with (first | ((with_reducible refine gate_dst (N := 23) rfl ?_); (try (refine gate_guard (by rfl) ?_; dsimp only)); refine lit_u [1, 0, 1] 3 rfl (by decide) rF (N := 23) rF HS.out gF ?_; intro A23 w23 hs_; replace HS := am hs_; clear hs_) | ((with_reducible refine gate_callee (f := 14) rfl ?_); refine goesA (some 24) Tryz.func14 #[.slice A23 3 3, .int .u32 5] ?_; (with_reducible refine (cFactor HS.out 300 [1, 0, 1] 5 1 [⟨[2, 1], 1⟩, ⟨[3, 1], 1⟩] 3 2 rfl rfl (by decide) v1 A23 3 (HS.out.atU 0 _ _ rfl)).mono ?_); rintro e w24 ⟨B24, c24, rfl, hs_⟩; refine ⟨_, rfl, ?_⟩; replace HS := am hs_; clear hs_) | ((with_reducible refine gate_dst (N := 28) rfl ?_); (try (refine gate_guard (by rfl) ?_; dsimp only)); refine lit_u [2, 0, 0, 0, 2] 5 rfl (by decide) rF (N := 28) rF HS.out gF ?_; intro A28 w28 hs_; replace HS := am hs_; clear hs_) | ((with_reducible refine gate_callee (f := 14) rfl ?_); refine goesA (some 29) Tryz.func14 #[.slice A28 5 5, .int .u32 3] ?_; (with_reducible refine (cFactor HS.out 300 [2, 0, 0, 0, 2] 3 2 [⟨[2, 1, 1], 1⟩, ⟨[2, 2, 1], 1⟩] 5 2 rfl rfl (by decide) v2 A28 5 (HS.out.atU 0 _ _ rfl)).mono ?_); rintro e w29 ⟨B29, c29, rfl, hs_⟩; refine ⟨_, rfl, ?_⟩; replace HS := am hs_; clear hs_) | ((with_reducible refine gate_dst (N := 33) rfl ?_); (try (refine gate_guard (by rfl) ?_; dsimp only)); refine lit_u [0, 0, 1] 3 rfl (by decide) rF (N := 33) rF HS.out gF ?_; intro A33 w33 hs_; replace HS := am hs_; clear hs_) | ((with_reducible refine gate_callee (f := 14) rfl ?_); refine goesA (some 34) Tryz.func14 #[.slice A33 3 3, .int .u32 2] ?_; (with_reducible refine (cFactor HS.out 300 [0, 0, 1] 2 1 [⟨[0, 1], 2⟩] 3 1 rfl rfl (by decide) v3 A33 3 (HS.out.atU 0 _ _ rfl)).mono ?_); rintro e w34 ⟨B34, c34, rfl, hs_⟩; refine ⟨_, rfl, ?_⟩; replace HS := am hs_; clear hs_) | ((with_reducible refine gate_callee (f := 14) rfl ?_); refine goesA (some 38) Tryz.func14 #[.slice none 0 0, .int .u32 7] ?_; (with_reducible refine (cFactor HS.out 300 [] 7 0 [] 0 0 rfl rfl (by decide) v4 none 0 (CV_nil _)).mono ?_); rintro e w38 ⟨B38, c38, rfl, hs_⟩; refine ⟨_, rfl, ?_⟩; replace HS := am hs_; clear hs_) | ((with_reducible refine gate_dst (N := 42) rfl ?_); (try (refine gate_guard (by rfl) ?_; dsimp only)); refine lit_u [1, 2, 3] 3 rfl (by decide) rF (N := 42) rF HS.out gF ?_; intro A42 w42 hs_; replace HS := am hs_; clear hs_) | ((with_reducible refine gate_dst (N := 43) rfl ?_); (try (refine gate_guard (by rfl) ?_; dsimp only)); refine lit_u [4, 5] 2 rfl (by decide) rF (N := 43) rF HS.out gF ?_; intro A43 w43 hs_; replace HS := am hs_; clear hs_) | ((with_reducible refine gate_callee (f := 15) rfl ?_); refine goesA (some 44) Tryz.func15 #[.slice A42 3 3, .slice A43 2 2, .int .u32 7] ?_; (with_reducible refine (cDivMod HS.out 60 [1, 2, 3] [4, 5] 7 [3, 2] [3] 0 3 2 2 1 rfl rfl v5 A42 A43 3 2 (HS.out.atU 1 _ _ rfl) (HS.out.atU 0 _ _ rfl)).mono ?_); rintro e w44 ⟨B44, c44, D44, d44, rfl, hs_⟩; refine ⟨_, rfl, ?_⟩; replace HS := am hs_; clear hs_) | ((with_reducible refine gate_dst (N := 49) rfl ?_); (try (refine gate_guard (by rfl) ?_; dsimp only)); refine lit_u [1] 1 rfl (by decide) rF (N := 49) rF HS.out gF ?_; intro A49 w49 hs_; replace HS := am hs_; clear hs_) | ((with_reducible refine gate_callee (f := 15) rfl ?_); refine goesA (some 50) Tryz.func15 #[.slice A49 1 1, .slice none 0 0, .int .u32 7] ?_; (with_reducible refine (cDivMod HS.out 60 [1] [] 7 [] [] 3 1 0 0 0 rfl rfl v6 A49 none 1 0 (HS.out.atU 0 _ _ rfl) (CV_nil _)).mono ?_); rintro e w50 ⟨B50, c50, D50, d50, rfl, hs_⟩; refine ⟨_, rfl, ?_⟩; replace HS := am hs_; clear hs_) | ((with_reducible refine gate_dst (N := 55) rfl ?_); (try (refine gate_guard (by rfl) ?_; dsimp only)); refine lit_u [0, 1] 2 rfl (by decide) rF (N := 55) rF HS.out gF ?_; intro A55 w55 hs_; replace HS := am hs_; clear hs_) | ((with_reducible refine gate_dst (N := 56) rfl ?_); (try (refine gate_guard (by rfl) ?_; dsimp only)); refine lit_u [5] 1 rfl (by decide) rF (N := 56) rF HS.out gF ?_; intro A56 w56 hs_; replace HS := am hs_; clear hs_) | ((with_reducible refine gate_dst (N := 57) rfl ?_); (try (refine gate_guard (by rfl) ?_; dsimp only)); refine lit_u [1, 0, 1] 3 rfl (by decide) rF (N := 57) rF HS.out gF ?_; intro A57 w57 hs_; replace HS := am hs_; clear hs_) | ((with_reducible refine gate_callee (f := 16) rfl ?_); refine goesA (some 59) Tryz.func16 #[.slice A55 2 2, .slice A56 1 1, .agg #[.slice A57 3 3, .int .u32 7]] ?_; (with_reducible refine (cPowMod HS.out 60 [0, 1] [5] [1, 0, 1] 7 [0, 1] 0 2 1 3 2 rfl v7 A55 A56 A57 2 1 3 (HS.out.atU 2 _ _ rfl) (HS.out.atU 1 _ _ rfl) (HS.out.atU 0 _ _ rfl)).mono ?_); rintro e w59 ⟨B59, c59, rfl, hs_⟩; refine ⟨_, rfl, ?_⟩; replace HS := am hs_; clear hs_) | ((with_reducible refine gate_dst (N := 63) rfl ?_); (try (refine gate_guard (by rfl) ?_; dsimp only)); refine lit_u [1] 1 rfl (by decide) rF (N := 63) rF HS.out gF ?_; intro A63 w63 hs_; replace HS := am hs_; clear hs_) | ((with_reducible refine gate_dst (N := 64) rfl ?_); (try (refine gate_guard (by rfl) ?_; dsimp only)); refine lit_u [5] 1 rfl (by decide) rF (N := 64) rF HS.out gF ?_; intro A64 w64 hs_; replace HS := am hs_; clear hs_) | ((with_reducible refine gate_dst (N := 65) rfl ?_); (try (refine gate_guard (by rfl) ?_; dsimp only)); refine lit_u [3] 1 rfl (by decide) rF (N := 65) rF HS.out gF ?_; intro A65 w65 hs_; replace HS := am hs_; clear hs_) | ((with_reducible refine gate_callee (f := 16) rfl ?_); refine goesA (some 67) Tryz.func16 #[.slice A63 1 1, .slice A64 1 1, .agg #[.slice A65 1 1, .int .u32 7]] ?_; (with_reducible refine (cPowMod HS.out 60 [1] [5] [3] 7 [] 1 1 1 1 0 rfl v8 A63 A64 A65 1 1 1 (HS.out.atU 2 _ _ rfl) (HS.out.atU 1 _ _ rfl) (HS.out.atU 0 _ _ rfl)).mono ?_); rintro e w67 ⟨B67, c67, rfl, hs_⟩; refine ⟨_, rfl, ?_⟩; replace HS := am hs_; clear hs_) | ((with_reducible refine gate_dst (N := 71) rfl ?_); (try (refine gate_guard (by rfl) ?_; dsimp only)); refine lit_u [1] 1 rfl (by decide) rF (N := 71) rF HS.out gF ?_; intro A71 w71 hs_; replace HS := am hs_; clear hs_) | ((with_reducible refine gate_dst (N := 72) rfl ?_); (try (refine gate_guard (by rfl) ?_; dsimp only)); refine lit_u [5] 1 rfl (by decide) rF (N := 72) rF HS.out gF ?_; intro A72 w72 hs_; replace HS := am hs_; clear hs_) | ((with_reducible refine gate_callee (f := 16) rfl ?_); refine goesA (some 74) Tryz.func16 #[.slice A71 1 1, .slice A72 1 1, .agg #[.slice none 0 0, .int .u32 7]] ?_; (with_reducible refine (cPowMod HS.out 60 [1] [5] [] 7 [] 3 1 1 0 0 rfl v9 A71 A72 none 1 1 0 (HS.out.atU 1 _ _ rfl) (HS.out.atU 0 _ _ rfl) (CV_nil _)).mono ?_); rintro e w74 ⟨B74, c74, rfl, hs_⟩; refine ⟨_, rfl, ?_⟩; replace HS := am hs_; clear hs_) | ((with_reducible refine gate_dst (N := 77) rfl ?_); (try (refine gate_guard (by rfl) ?_; dsimp only)); refine lit_u [2, 3, 1] 3 rfl (by decide) rF (N := 77) rF HS.out gF ?_; intro A77 w77 hs_; replace HS := am hs_; clear hs_) | ((with_reducible refine gate_dst (N := 78) rfl ?_); (try (refine gate_guard (by rfl) ?_; dsimp only)); refine lit_u [3, 4, 1] 3 rfl (by decide) rF (N := 78) rF HS.out gF ?_; intro A78 w78 hs_; replace HS := am hs_; clear hs_) | ((with_reducible refine gate_callee (f := 17) rfl ?_); refine goesA (some 79) Tryz.func17 #[.slice A77 3 3, .slice A78 3 3, .int .u32 5] ?_; (with_reducible refine (cGcd HS.out 60 [2, 3, 1] [3, 4, 1] 5 [1, 1] 3 3 2 rfl v10 A77 A78 3 3 (HS.out.atU 1 _ _ rfl) (HS.out.atU 0 _ _ rfl)).mono ?_); rintro e w79 ⟨B79, c79, rfl, hs_⟩; refine ⟨_, rfl, ?_⟩; replace HS := am hs_; clear hs_) | ((with_reducible refine gate_dst (N := 92) rfl ?_); (try (refine gate_guard (by rfl) ?_; dsimp only)); refine lit_u [2, 1] 2 rfl (by decide) rF (N := 92) rF HS.out gF ?_; intro A92 w92 hs_; replace HS := am hs_; clear hs_) | ((with_reducible refine gate_dst (N := 94) rfl ?_); (try (refine gate_guard (by rfl) ?_; dsimp only)); refine lit_u [3, 1] 2 rfl (by decide) rF (N := 94) rF HS.out gF ?_; intro A94 w94 hs_; replace HS := am hs_; clear hs_) | ((with_reducible refine gate_dst (N := 96) rfl ?_); (try (refine gate_guard (by rfl) ?_; dsimp only)); refine lit_f [⟨[2, 1], 1⟩, ⟨[3, 1], 1⟩] 2 [.slice A92 2 2, .int .i64 1, .slice A94 2 2, .int .i64 1] rfl (by decide) ?hg (N := 96) ?hd HS.out ?hcs ?hr ?_; (case hd => rfl); (case hg => rfl); (case hcs => exact (Reps.two (K52_of (HS.out.atU 1 _ _ rfl) 1) (Reps.two (K52_of (HS.out.atU 0 _ _ rfl) 1) (Reps.none _ _)))); (case hr => first | (go_simp; done) | (go_simp; rfl)); intro A96 w96 hs_; replace HS := am hs_; clear hs_) | (go_at_call 18; (with_reducible refine (cSameAll HS.out 60 [⟨[2, 1], 1⟩, ⟨[3, 1], 1⟩] [⟨[2, 1], 1⟩, ⟨[3, 1], 1⟩] 2 2 v11 B24 A96 c24 2 (HS.out.atF 29 _ _ rfl) (HS.out.atF 0 _ _ rfl)).mono ?_); rintro e w97 ⟨rfl, hs_⟩; replace HS := am hs_; clear hs_) | ((with_reducible refine gate_dst (N := 105) rfl ?_); (try (refine gate_guard (by rfl) ?_; dsimp only)); refine lit_u [2, 1, 1] 3 rfl (by decide) rF (N := 105) rF HS.out gF ?_; intro A105 w105 hs_; replace HS := am hs_; clear hs_) | ((with_reducible refine gate_dst (N := 107) rfl ?_); (try (refine gate_guard (by rfl) ?_; dsimp only)); refine lit_u [2, 2, 1] 3 rfl (by decide) rF (N := 107) rF HS.out gF ?_; intro A107 w107 hs_; replace HS := am hs_; clear hs_) | ((with_reducible refine gate_dst (N := 109) rfl ?_); (try (refine gate_guard (by rfl) ?_; dsimp only)); refine lit_f [⟨[2, 1, 1], 1⟩, ⟨[2, 2, 1], 1⟩] 2 [.slice A105 3 3, .int .i64 1, .slice A107 3 3, .int .i64 1] rfl (by decide) ?hg (N := 109) ?hd HS.out ?hcs ?hr ?_; (case hd => rfl); (case hg => rfl); (case hcs => exact (Reps.two (K52_of (HS.out.atU 1 _ _ rfl) 1) (Reps.two (K52_of (HS.out.atU 0 _ _ rfl) 1) (Reps.none _ _)))); (case hr => first | (go_simp; done) | (go_simp; rfl)); intro A109 w109 hs_; replace HS := am hs_; clear hs_) | (go_at_call 18; (with_reducible refine (cSameAll HS.out 60 [⟨[2, 1, 1], 1⟩, ⟨[2, 2, 1], 1⟩] [⟨[2, 1, 1], 1⟩, ⟨[2, 2, 1], 1⟩] 2 2 v12 B29 A109 c29 2 (HS.out.atF 30 _ _ rfl) (HS.out.atF 0 _ _ rfl)).mono ?_); rintro e w110 ⟨rfl, hs_⟩; replace HS := am hs_; clear hs_) | ((with_reducible refine gate_dst (N := 118) rfl ?_); (try (refine gate_guard (by rfl) ?_; dsimp only)); refine lit_u [0, 1] 2 rfl (by decide) rF (N := 118) rF HS.out gF ?_; intro A118 w118 hs_; replace HS := am hs_; clear hs_) | ((with_reducible refine gate_dst (N := 120) rfl ?_); (try (refine gate_guard (by rfl) ?_; dsimp only)); refine lit_f [⟨[0, 1], 2⟩] 1 [.slice A118 2 2, .int .i64 2] rfl (by decide) ?hg (N := 120) ?hd HS.out ?hcs ?hr ?_; (case hd => rfl); (case hg => rfl); (case hcs => exact (Reps.two (K52_of (HS.out.atU 0 _ _ rfl) 2) (Reps.none _ _))); (case hr => first | (go_simp; done) | (go_simp; rfl)); intro A120 w120 hs_; replace HS := am hs_; clear hs_) | (go_at_call 18; (with_reducible refine (cSameAll HS.out 60 [⟨[0, 1], 2⟩] [⟨[0, 1], 2⟩] 1 1 v13 B34 A120 c34 1 (HS.out.atF 30 _ _ rfl) (HS.out.atF 0 _ _ rfl)).mono ?_); rintro e w121 ⟨rfl, hs_⟩; replace HS := am hs_; clear hs_) | ((with_reducible refine gate_dst (N := 134) rfl ?_); (try (refine gate_guard (by rfl) ?_; dsimp only)); refine lit_u [3, 2] 2 rfl (by decide) rF (N := 134) rF HS.out gF ?_; intro A134 w134 hs_; replace HS := am hs_; clear hs_) | (go_at_call 9; (with_reducible refine (cSame HS.out 60 [3, 2] [3, 2] 2 2 v14 B44 A134 c44 2 (HS.out.atU 26 _ _ rfl) (HS.out.atU 0 _ _ rfl)).mono ?_); rintro e w135 ⟨rfl, hs_⟩; replace HS := am hs_; clear hs_) | ((with_reducible refine gate_dst (N := 139) rfl ?_); (try (refine gate_guard (by rfl) ?_; dsimp only)); refine lit_u [3] 1 rfl (by decide) rF (N := 139) rF HS.out gF ?_; intro A139 w139 hs_; replace HS := am hs_; clear hs_) | (go_at_call 9; (with_reducible refine (cSame HS.out 60 [3] [3] 1 1 v15 D44 A139 d44 1 (HS.out.atU 28 _ _ rfl) (HS.out.atU 0 _ _ rfl)).mono ?_); rintro e w140 ⟨rfl, hs_⟩; replace HS := am hs_; clear hs_) | ((with_reducible refine gate_dst (N := 152) rfl ?_); (try (refine gate_guard (by rfl) ?_; dsimp only)); refine lit_u [0, 1] 2 rfl (by decide) rF (N := 152) rF HS.out gF ?_; intro A152 w152 hs_; replace HS := am hs_; clear hs_) | (go_at_call 9; (with_reducible refine (cSame HS.out 60 [0, 1] [0, 1] 2 2 v16 B59 A152 c59 2 (HS.out.atU 21 _ _ rfl) (HS.out.atU 0 _ _ rfl)).mono ?_); rintro e w153 ⟨rfl, hs_⟩; replace HS := am hs_; clear hs_) | ((with_reducible refine gate_dst (N := 169) rfl ?_); (try (refine gate_guard (by rfl) ?_; dsimp only)); refine lit_u [1, 1] 2 rfl (by decide) rF (N := 169) rF HS.out gF ?_; intro A169 w169 hs_; replace HS := am hs_; clear hs_) | (go_at_call 9; (with_reducible refine (cSame HS.out 60 [1, 1] [1, 1] 2 2 v17 B79 A169 c79 2 (HS.out.atU 12 _ _ rfl) (HS.out.atU 0 _ _ rfl)).mono ?_); rintro e w170 ⟨rfl, hs_⟩; replace HS := am hs_; clear hs_) | ((with_reducible refine gate_dst (N := 173) rfl ?_); (try (refine gate_guard (by rfl) ?_; dsimp only)); refine lit_u [1, 0, 1] 3 rfl (by decide) rF (N := 173) rF HS.out gF ?_; intro A173 w173 hs_; replace HS := am hs_; clear hs_) | (go_at_call 19; (with_reducible refine (cIrred HS.out 60 [1, 0, 1] 7 true 3 (by decide) v18 A173 3 (HS.out.atU 0 _ _ rfl)).mono ?_); rintro e w174 ⟨rfl, hs_⟩; replace HS := am hs_; clear hs_) | ((with_reducible refine gate_dst (N := 177) rfl ?_); (try (refine gate_guard (by rfl) ?_; dsimp only)); refine lit_u [3] 1 rfl (by decide) rF (N := 177) rF HS.out gF ?_; intro A177 w177 hs_; replace HS := am hs_; clear hs_) | (go_at_call 19; (with_reducible refine (cIrred HS.out 60 [3] 7 false 1 (by decide) v19 A177 1 (HS.out.atU 0 _ _ rfl)).mono ?_); rintro e w178 ⟨rfl, hs_⟩; replace HS := am hs_; clear hs_) | (go_at_call 20; (with_reducible refine (cPrime HS.out 200 65521 true v20).mono ?_); rintro e w182 ⟨rfl, hs_⟩; replace HS := am hs_; clear hs_) | (go_at_call 20; (with_reducible refine (cPrime HS.out 200 65537 false v21).mono ?_); rintro e w185 ⟨rfl, hs_⟩; replace HS := am hs_; clear hs_) | (go_at_call 20; (with_reducible refine (cPrime HS.out 200 1 false v22).mono ?_); rintro e w189 ⟨rfl, hs_⟩; replace HS := am hs_; clear hs_) | (go_at_call 20; (with_reducible refine (cPrime HS.out 200 2 true v23).mono ?_); rintro e w193 ⟨rfl, hs_⟩; replace HS := am hs_; clear hs_) | ((with_reducible refine gate_dst (N := 196) rfl ?_); (try (refine gate_guard (by rfl) ?_; dsimp only)); refine lit_u [7] 1 rfl (by decide) rF (N := 196) rF HS.out gF ?_; intro A196 w196 hs_; replace HS := am hs_; clear hs_) | (go_at_call 21; (with_reducible refine (cRight HS.out 60 [7] 7 false 1 v24 A196 1 (HS.out.atU 0 _ _ rfl)).mono ?_); rintro e w197 ⟨rfl, hs_⟩; replace HS := am hs_; clear hs_) | ((with_reducible refine gate_dst (N := 201) rfl ?_); (try (refine gate_guard (by rfl) ?_; dsimp only)); refine lit_u [1, 0] 2 rfl (by decide) rF (N := 201) rF HS.out gF ?_; intro A201 w201 hs_; replace HS := am hs_; clear hs_) | (go_at_call 21; (with_reducible refine (cRight HS.out 60 [1, 0] 7 false 2 v25 A201 2 (HS.out.atU 0 _ _ rfl)).mono ?_); rintro e w202 ⟨rfl, hs_⟩; replace HS := am hs_; clear hs_) | (go_at_call 21; (with_reducible refine (cRight HS.out 60 [] 7 true 0 v26 none 0 (CV_nil _)).mono ?_); rintro e w206 ⟨rfl, hs_⟩; replace HS := am hs_; clear hs_) | (go_at_call 22; (with_reducible refine (cRefOf HS.out 60 (-1) true [1] 1 rfl v27).mono ?_); rintro e w209 ⟨B209, c209, rfl, hs_⟩; replace HS := am hs_; clear hs_) | (go_at_call 22; (with_reducible refine (cRefOf HS.out 60 9 false [9] 1 rfl v28).mono ?_); rintro e w210 ⟨B210, c210, rfl, hs_⟩; replace HS := am hs_; clear hs_) | (go_at_call 22; (with_reducible refine (cRefOf HS.out 60 14 false [14] 1 rfl v29).mono ?_); rintro e w211 ⟨B211, c211, rfl, hs_⟩; replace HS := am hs_; clear hs_) | ((with_reducible refine gate_dst (N := 212) rfl ?_); (try (refine gate_guard (by rfl) ?_; dsimp only)); refine lit_i [⟨true, [1]⟩, ⟨false, [9]⟩, ⟨false, [14]⟩] 3 [.bool true, .slice B209 1 c209, .bool false, .slice B210 1 c210, .bool false, .slice B211 1 c211] rfl (by decide) ?hg (N := 212) ?hd HS.out ?hcs ?hr ?_; (case hd => rfl); (case hg => rfl); (case hcs => exact (Reps.two (K56_of (HS.out.atU 2 _ _ rfl) true) (Reps.two (K56_of (HS.out.atU 1 _ _ rfl) false) (Reps.two (K56_of (HS.out.atU 0 _ _ rfl) false) (Reps.none _ _))))); (case hr => first | (go_simp; done) | (go_simp; rfl)); intro A212 w212 hs_; replace HS := am hs_; clear hs_) | (go_at_call 7; (with_reducible refine (cReduce7 HS.out A212 3 (HS.out.atI 0 _ _ rfl)).mono ?_); rintro e w213 ⟨B213, c213, rfl, hs_⟩; replace HS := am hs_; clear hs_) | ((with_reducible refine gate_dst (N := 214) rfl ?_); (try (refine gate_guard (by rfl) ?_; dsimp only)); refine lit_u [6, 2] 2 rfl (by decide) rF (N := 214) rF HS.out gF ?_; intro A214 w214 hs_; replace HS := am hs_; clear hs_) | (go_at_call 9; (with_reducible refine (cSame HS.out 60 [6, 2] [6, 2] 2 2 v31 B213 A214 c213 2 (HS.out.atU 1 _ _ rfl) (HS.out.atU 0 _ _ rfl)).mono ?_); rintro e w215 ⟨rfl, hs_⟩; replace HS := am hs_; clear hs_))
 go_ret
 exact ⟨by first | rfl | (simp; done), HS.out.b⟩
section calls
variable {w0 w : World} {L : List (Value × Row7)}
theorem zHead (hS : LS w0 w L) : Calls Tryz.prog 4 #[] w fun e w' => e = .returned (.bool true) ∧ LS w0 w' L :=
 (head_calls w hS.g).mono (fun e w' ⟨he, hb⟩ => ⟨he, hS.below hb⟩)
theorem zOf (hS : LS w0 w L) (k : Nat) (x r : Int) (hf : zigguratref14_Of.f k x = some r) : Calls Tryz.prog 5 #[.int .u32 x] w fun e w' => e = .returned (.int .u32 r) ∧ LS w0 w' L :=
 (zigguratref14_Of.calls k x r w hf).mono (fun e w' ⟨he, hd⟩ => ⟨he, hS.drawn hd⟩)
theorem zMade (hS : LS w0 w L) (K : Nat) (hK : 2000 ≤ K) (xs : List S56) (hx : ∀ x ∈ xs, Limbs x.f1) (zs : List Int) (e : trimL ((xs.take 10).map (madeZ 4)) = zs) (A : Option Addr) (c : Nat) (hm : RV w (.slice A xs.length c) (.i xs)) :
   Calls Tryz.prog 6 #[.slice A xs.length c, .int .i64 9, .int .i64 4] w fun e w' => ∃ A' c', e = .returned (.slice A' zs.length c') ∧ LS w0 w' ((.slice A' zs.length c', .i (zs.map mkZ)) :: L) := by
 obtain ⟨_, hl, hC⟩ := RVi.C hm
 subst e
 refine (r12made K hK xs hx 9 4 (by omega) (by omega) A c w hC hl).mono ?_
 rintro e w' ⟨A', c', rfl, hv, hb⟩
 exact ⟨A', c', rfl, hS.more hb hv⟩
theorem RVz {zs : List Int} {A : Option Addr} {n c : Nat} (h : RV w (.slice A n c) (.i (zs.map mkZ))) : zs.length ≤ c ∧ Kd.C k56 w A zs.length (zs.map mkZ) := by
 obtain ⟨_, hl, hC⟩ := RVi.C h
 rw [List.length_map] at hl hC
 exact ⟨hl, hC⟩
theorem zRed (hS : LS w0 w L) (K : Nat) (zs : List Int) (p : Int) (x : List Int) (hf : modp_Reduce.f K (zs.map mkZ) p = some x) (A : Option Addr) (c : Nat) (hm : RV w (.slice A zs.length c) (.i (zs.map mkZ))) :
   Calls Tryz.prog 7 #[.slice A zs.length c, .int .u32 p] w fun e w' => ∃ A' c', e = .returned (.slice A' x.length c') ∧ LS w0 w' ((.slice A' x.length c', .u x) :: L) := by
 obtain ⟨hl, hC⟩ := RVz hm
 have h := modp_Reduce.calls K A c (zs.map mkZ) p x w (by rw [List.length_map]; exact hC) (by rw [List.length_map]; exact hl) hf
 rw [List.length_map] at h
 refine h.mono ?_
 rintro e w' ⟨v, rfl, hv, hb⟩
 obtain ⟨A', c', rfl⟩ := Kd.V_slice hv
 have h2 := Kd.V_reads' hv
 exact ⟨A', c', rfl, hS.more hb (r := .u x) ⟨A', c', rfl, h2.2.1, h2.2.2⟩⟩
theorem zAdd (hS : LS w0 w L) (K : Nat) (hK : 2000 ≤ K) (zs ys : List Int) (hz : ∀ z ∈ zs, zlen z ≤ 4) (hy : ∀ z ∈ ys, zlen z ≤ 4) (hlz : zs.length ≤ 10) (hly : ys.length ≤ 10) (r : List Int) (e : trimL (addR zs ys (max zs.length ys.length)) = r) (A B : Option Addr) (c d : Nat) (hm : RV w (.slice A zs.length c) (.i (zs.map mkZ))) (hm2 : RV w (.slice B ys.length d) (.i (ys.map mkZ))) :
   Calls Tryz.prog 10 #[.slice A zs.length c, .slice B ys.length d] w fun e w' => ∃ A' c', e = .returned (.slice A' r.length c') ∧ LS w0 w' ((.slice A' r.length c', .i (r.map mkZ)) :: L) := by
 obtain ⟨hl, hC⟩ := RVz hm
 obtain ⟨hl2, hC2⟩ := RVz hm2
 subst e
 refine (r12add K hK zs ys 4 (by omega) hz hy (by omega) (by omega) A B c d w hC hl hC2 hl2).mono ?_
 rintro e w' ⟨A', c', rfl, hv, hb⟩
 exact ⟨A', c', rfl, hS.more hb hv⟩
theorem zMul (hS : LS w0 w L) (K : Nat) (hK : 1000000 ≤ K) (zs ys : List Int) (hz : ∀ z ∈ zs, zlen z ≤ 4) (hy : ∀ z ∈ ys, zlen z ≤ 4) (hlz : zs.length ≤ 10) (hly : ys.length ≤ 10) (r : List Int) (e : trimL (mulR zs ys (zs.length + ys.length - 1)) = r) (A B : Option Addr) (c d : Nat) (hm : RV w (.slice A zs.length c) (.i (zs.map mkZ))) (hm2 : RV w (.slice B ys.length d) (.i (ys.map mkZ))) :
   Calls Tryz.prog 12 #[.slice A zs.length c, .slice B ys.length d] w fun e w' => ∃ A' c', e = .returned (.slice A' r.length c') ∧ LS w0 w' ((.slice A' r.length c', .i (r.map mkZ)) :: L) := by
 obtain ⟨hl, hC⟩ := RVz hm
 obtain ⟨hl2, hC2⟩ := RVz hm2
 subst e
 refine (r12mul K (by omega) zs ys 4 (by omega) hz hy (by omega) (by omega) (fun a b ha hb => mul06_f ha hb (by omega) K hK) (fun i k hk => mulS_len hz hy i k hk) (fun a b ha hb => by have := zlen_mul ha hb; omega) A B c d w hC hl hC2 hl2).mono ?_
 rintro e w' ⟨A', c', rfl, hv, hb⟩
 exact ⟨A', c', rfl, hS.more hb hv⟩
theorem zAddP (hS : LS w0 w L) (k : Nat) (l m : List Int) (p : Int) (r : List Int) (hf : modp_Add.f k l m p = some r) (A B : Option Addr) (c d : Nat) (hm : CV w (.slice A l.length c) l) (hm2 : CV w (.slice B m.length d) m) :
   Calls Tryz.prog 11 #[.slice A l.length c, .slice B m.length d, .int .u32 p] w fun e w' => ∃ A1 c1, e = .returned (.slice A1 r.length c1) ∧ LS w0 w' ((.slice A1 r.length c1, .u r) :: L) := by
 refine (modp_Add.calls k A c l B d m p r w hm.C.2.2 hm.C.2.1 hm2.C.2.2 hm2.C.2.1 hf).mono ?_
 rintro e w' ⟨v, rfl, hv, hb⟩
 obtain ⟨A', c', rfl⟩ := Kd.V_slice hv
 have h2 := Kd.V_reads' hv
 exact ⟨A', c', rfl, hS.more hb (r := .u r) ⟨A', c', rfl, h2.2.1, h2.2.2⟩⟩
theorem zMulP (hS : LS w0 w L) (k : Nat) (l m : List Int) (p : Int) (r : List Int) (hf : modp_Mul.f k l m p = some r) (A B : Option Addr) (c d : Nat) (hm : CV w (.slice A l.length c) l) (hm2 : CV w (.slice B m.length d) m) :
   Calls Tryz.prog 13 #[.slice A l.length c, .slice B m.length d, .int .u32 p] w fun e w' => ∃ A1 c1, e = .returned (.slice A1 r.length c1) ∧ LS w0 w' ((.slice A1 r.length c1, .u r) :: L) := by
 refine (modp_Mul.calls k A c l B d m p r w hm.C.2.2 hm.C.2.1 hm2.C.2.2 hm2.C.2.1 hf).mono ?_
 rintro e w' ⟨v, rfl, hv, hb⟩
 obtain ⟨A', c', rfl⟩ := Kd.V_slice hv
 have h2 := Kd.V_reads' hv
 exact ⟨A', c', rfl, hS.more hb (r := .u r) ⟨A', c', rfl, h2.2.1, h2.2.2⟩⟩
theorem zRight (hS : LS w0 w L) (k : Nat) (l : List Int) (p : Int) (hf : zigguratref14_Right.f k l p = some true) (A : Option Addr) (c : Nat) (hm : CV w (.slice A l.length c) l) :
   Calls Tryz.prog 8 #[.slice A l.length c, .int .u32 p] w fun e w' => e = .returned (.bool true) ∧ LS w0 w' L :=
 (zigguratref14_Right.calls k A c l p true w hm.C.2.2 hm.C.2.1 hf).mono (fun e w' ⟨he, hd⟩ => ⟨he, hS.drawn hd⟩)
theorem zSame (hS : LS w0 w L) (k : Nat) (l : List Int) (hf : zigguratref14_Same.f k l l = some true) (A B : Option Addr) (c d : Nat) (hm : CV w (.slice A l.length c) l) (hm2 : CV w (.slice B l.length d) l) :
   Calls Tryz.prog 9 #[.slice A l.length c, .slice B l.length d] w fun e w' => e = .returned (.bool true) ∧ LS w0 w' L :=
 (zigguratref14_Same.calls k A c l B d l true w hm.C.2.2 hm.C.2.1 hm2.C.2.2 hm2.C.2.1 hf).mono (fun e w' ⟨he, hd⟩ => ⟨he, hS.drawn hd⟩)
end calls
theorem red_walk (K : Nat) (hK : 1000000 ≤ K) (a0 : Int) (A1 A2 : Option Addr) (c1 c2 : Nat) (l1 l2 : List S56) (p : Int) (hof : zigguratref14_Of.f K a0 = some p) (hx1 : ∀ x ∈ l1, Limbs x.f1) (hx2 : ∀ x ∈ l2, Limbs x.f1)
   (zs ys sa ma x y s q : List Int) (e1 : trimL ((l1.take 10).map (madeZ 4)) = zs) (e2 : trimL ((l2.take 10).map (madeZ 4)) = ys) (hz : ∀ z ∈ zs, zlen z ≤ 4) (hy : ∀ z ∈ ys, zlen z ≤ 4) (hlz : zs.length ≤ 10) (hly : ys.length ≤ 10)
   (e3 : trimL (addR zs ys (max zs.length ys.length)) = sa) (e4 : trimL (mulR zs ys (zs.length + ys.length - 1)) = ma)
   (r1 : modp_Reduce.f K (zs.map mkZ) p = some x) (r2 : modp_Reduce.f K (ys.map mkZ) p = some y) (r3 : zigguratref14_Right.f K x p = some true) (r4 : modp_Reduce.f K (sa.map mkZ) p = some s) (r5 : modp_Add.f K x y p = some s) (r6 : zigguratref14_Same.f K s s = some true)
   (r7 : modp_Reduce.f K (ma.map mkZ) p = some q) (r8 : modp_Mul.f K x y p = some q) (r9 : zigguratref14_Same.f K q q = some true)
   (w : World) (hG : GW w) (h1 : RV w (.slice A1 l1.length c1) (.i l1)) (h2 : RV w (.slice A2 l2.length c2) (.i l2)) :
   Calls Tryz.prog 3 #[.slice A1 l1.length c1, .slice A2 l2.length c2, .int .u32 a0] w fun e w' => e = .returned (.bool true) ∧ Below w.heap.size w w' := by
 have HS : Aside0 (LS w w [(.slice A1 l1.length c1, .i l1), (.slice A2 l2.length c2, .i l2)]) := ⟨⟨Below.refl _ _, hG, fun x hx => by
   simp only [List.mem_cons, List.not_mem_nil, or_false] at hx
   rcases hx with rfl | rfl
   · exact h1
   · exact h2⟩⟩
 have HK := am hK
 have HZ := am hz
 have HY := am hy
 have HLZ := am hlz
 have HLY := am hly
 have E1 := am e1
 have E2 := am e2
 have E3 := am e3
 have E4 := am e4
 clear hG h1 h2 hK hz hy hlz hly e1 e2 e3 e4
 go_enter Tryz.func3, Tryz.ntmps3
 go_wp2_with (first | (go_at_call 4; (with_reducible refine (zHead HS.out).mono ?_); rintro e w13 ⟨rfl, hs_⟩; replace HS := am hs_; clear hs_) | (go_at_call 5; (with_reducible refine (zOf HS.out K _ _ hof).mono ?_); rintro e w15 ⟨rfl, hs_⟩; replace HS := am hs_; clear hs_) | (go_at_call 6; (with_reducible refine (zMade HS.out K (by have := HK.out; omega) l1 hx1 zs E1.out A1 c1 (HS.out.atI 0 _ _ rfl)).mono ?_); rintro e w17 ⟨A17, c17, rfl, hs_⟩; replace HS := am hs_; clear hs_) | (go_at_call 6; (with_reducible refine (zMade HS.out K (by have := HK.out; omega) l2 hx2 ys E2.out A2 c2 (HS.out.atI 2 _ _ rfl)).mono ?_); rintro e w19 ⟨A19, c19, rfl, hs_⟩; replace HS := am hs_; clear hs_) | (go_at_call 7; (with_reducible refine (zRed HS.out K zs p x r1 A17 c17 (HS.out.atI 1 _ _ rfl)).mono ?_); rintro e w22 ⟨A22, c22, rfl, hs_⟩; replace HS := am hs_; clear hs_) | (go_at_call 7; (with_reducible refine (zRed HS.out K ys p y r2 A19 c19 (HS.out.atI 1 _ _ rfl)).mono ?_); rintro e w25 ⟨A25, c25, rfl, hs_⟩; replace HS := am hs_; clear hs_) | (go_at_call 8; (with_reducible refine (zRight HS.out K x p r3 A22 c22 (HS.out.atU 1 _ _ rfl)).mono ?_); rintro e w28 ⟨rfl, hs_⟩; replace HS := am hs_; clear hs_) | (go_at_call 10; (with_reducible refine (zAdd HS.out K (by have := HK.out; omega) zs ys HZ.out HY.out HLZ.out HLY.out sa E3.out A17 A19 c17 c19 (HS.out.atI 3 _ _ rfl) (HS.out.atI 2 _ _ rfl)).mono ?_); rintro e w32 ⟨A32, c32, rfl, hs_⟩; replace HS := am hs_; clear hs_) | (go_at_call 7; (with_reducible refine (zRed HS.out K sa p s r4 A32 c32 (HS.out.atI 0 _ _ rfl)).mono ?_); rintro e w34 ⟨A34, c34, rfl, hs_⟩; replace HS := am hs_; clear hs_) | (go_at_call 11; (with_reducible refine (zAddP HS.out K x y p s r5 A22 A25 c22 c25 (HS.out.atU 3 _ _ rfl) (HS.out.atU 2 _ _ rfl)).mono ?_); rintro e w38 ⟨A38, c38, rfl, hs_⟩; replace HS := am hs_; clear hs_) | (go_at_call 9; (with_reducible refine (zSame HS.out K s r6 A34 A38 c34 c38 (HS.out.atU 1 _ _ rfl) (HS.out.atU 0 _ _ rfl)).mono ?_); rintro e w39 ⟨rfl, hs_⟩; replace HS := am hs_; clear hs_) | (go_at_call 12; (with_reducible refine (zMul HS.out K HK.out zs ys HZ.out HY.out HLZ.out HLY.out ma E4.out A17 A19 c17 c19 (HS.out.atI 6 _ _ rfl) (HS.out.atI 5 _ _ rfl)).mono ?_); rintro e w44 ⟨A44, c44, rfl, hs_⟩; replace HS := am hs_; clear hs_) | (go_at_call 7; (with_reducible refine (zRed HS.out K ma p q r7 A44 c44 (HS.out.atI 0 _ _ rfl)).mono ?_); rintro e w46 ⟨A46, c46, rfl, hs_⟩; replace HS := am hs_; clear hs_) | (go_at_call 13; (with_reducible refine (zMulP HS.out K x y p q r8 A22 A25 c22 c25 (HS.out.atU 6 _ _ rfl) (HS.out.atU 5 _ _ rfl)).mono ?_); rintro e w50 ⟨A50, c50, rfl, hs_⟩; replace HS := am hs_; clear hs_) | (go_at_call 9; (with_reducible refine (zSame HS.out K q r9 A46 A50 c46 c50 (HS.out.atU 1 _ _ rfl) (HS.out.atU 0 _ _ rfl)).mono ?_); rintro e w51 ⟨rfl, hs_⟩; replace HS := am hs_; clear hs_))
 go_ret
 exact ⟨eqS, HS.out.b⟩
theorem red_true (a0 : Int) (A1 A2 : Option Addr) (c1 c2 : Nat) (l1 l2 : List S56) (h0 : 0 ≤ a0) (hx1 : ∀ x ∈ l1, Limbs x.f1) (hx2 : ∀ x ∈ l2, Limbs x.f1)
   (w : World) (hG : GW w) (h1 : RV w (.slice A1 l1.length c1) (.i l1)) (h2 : RV w (.slice A2 l2.length c2) (.i l2)) :
   Calls Tryz.prog 3 #[.slice A1 l1.length c1, .slice A2 l2.length c2, .int .u32 a0] w fun e w' => e = .returned (.bool true) ∧ Below w.heap.size w w' := by
 obtain ⟨K, hK⟩ : ∃ K : Nat, 3000000 ≤ K := ⟨_, Nat.le_refl _⟩
 obtain ⟨p, hof, hpp, hp2⟩ := refof_is a0 h0 K (by omega)
 have hmem : ∀ l : List S56, (∀ x ∈ l, Limbs x.f1) → (∀ z ∈ trimL ((l.take 10).map (madeZ 4)), zlen z ≤ 4) ∧ (trimL ((l.take 10).map (madeZ 4))).length ≤ 10 := fun l hl => by
   refine ⟨trim_mem (fun z hz => ?_), ?_⟩
   · obtain ⟨x, hx, rfl⟩ := List.mem_map.1 hz
     exact madeZ_len x 4 (hl x (List.mem_of_mem_take hx))
   · have h3 := trimL_len ((l.take 10).map (madeZ 4))
     rw [List.length_map, List.length_take] at h3
     omega
 obtain ⟨m1, n1⟩ := hmem l1 hx1
 obtain ⟨m2, n2⟩ := hmem l2 hx2
 obtain ⟨x, y, s, q, g1, g2, g3, g4, g5, g6, g7, g8, g9⟩ := reduce_law p hpp hp2 _ _ m1 m2 n1 n2 K hK
 exact red_walk K (by omega) a0 A1 A2 c1 c2 l1 l2 p hof hx1 hx2 _ _ _ _ x y s q rfl rfl m1 m2 n1 n2 rfl rfl g1 g2 g3 g4 g5 g6 g7 g8 g9 w hG h1 h2
end Go.Proofs.YtjbcnppbcomaiaaGreatDoor.Q
