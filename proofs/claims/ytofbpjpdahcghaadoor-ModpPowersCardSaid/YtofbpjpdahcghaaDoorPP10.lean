/-
  ModpPowers: the power by a sum of exponents is the product of both powers, modulo the polynomial; by 0 it is 1, by 1 the rest; and of a product it is the product of the powers (the row, the walk and the plain words), part 10 of 12 (packed by pack.py from texts of this session).
-/
import Derived.Test.YtofbpjpdahcghaaDoorPP1
import Derived.Test.YtofbpjpdahcghaaDoorPP3
import Derived.Test.YtofbpjpdahcghaaDoorPP4
import Derived.Test.YtofbpjpdahcghaaDoorPP5
import Derived.Test.YtofbpjpdahcghaaDoorPP7
import Derived.Test.YtofbpjpdahcghaaDoorPP8
set_option maxRecDepth 100000
set_option maxHeartbeats 8000000
set_option linter.unusedVariables false
namespace Go.Proofs.YtofbpjpdahcghaaDoor.Q
open Go.RowKit Go.Proofs.YtofbpjpdahcghaaDoorW.PrintWords Go.Proofs.YtofbpjpdahcghaaDoorW.PrintLast Go.Proofs.YtofbpjpdahcghaaDoorW.PrintMore
set_option linter.unusedVariables false
set_option linter.unusedSimpArgs false
structure LS (w0 w : World) (L : List (Value × Row7)) : Prop where
 b : Below w0.heap.size w0 w
 g : GW w
 r : ∀ x ∈ L, RV w x.1 x.2
theorem LS.below {w0 w w1 : World} {L : List (Value × Row7)} (h : LS w0 w L) (hb : Below w.heap.size w w1) : LS w0 w1 L := ⟨below_step h.b hb, h.g.below hb, fun x hx => (h.r x hx).below hb⟩
theorem LS.more {w0 w w1 : World} {L : List (Value × Row7)} (h : LS w0 w L) (hb : Below w.heap.size w w1) {v : Value} {r : Row7} (hv : RV w1 v r) : LS w0 w1 ((v, r) :: L) :=
 ⟨below_step h.b hb, h.g.below hb, fun x hx => by
   rcases List.mem_cons.1 hx with rfl | hx
   · exact hv
   · exact (h.r x hx).below hb⟩
theorem LS.drawn {w0 w w1 : World} {L : List (Value × Row7)} (h : LS w0 w L) (hd : Drawn0 w w1) : LS w0 w1 L := by
 obtain ⟨n, rfl⟩ := hd
 exact h.below (pw_below_drewN (Below.refl _ _) n)
theorem LS.atU {w0 w : World} {L : List (Value × Row7)} (h : LS w0 w L) (i : Nat) (v : Value) (l : List Int) (hx : L[i]? = some (v, .u l)) : CV w v l := h.r (v, .u l) (List.mem_of_getElem? hx)
theorem LS.atF {w0 w : World} {L : List (Value × Row7)} (h : LS w0 w L) (i : Nat) (v : Value) (l : List S52) (hx : L[i]? = some (v, .f l)) : RV w v (.f l) := h.r (v, .f l) (List.mem_of_getElem? hx)
theorem LS.atI {w0 w : World} {L : List (Value × Row7)} (h : LS w0 w L) (i : Nat) (v : Value) (l : List S56) (hx : L[i]? = some (v, .i l)) : RV w v (.i l) := h.r (v, .i l) (List.mem_of_getElem? hx)
theorem LS.atB {w0 w : World} {L : List (Value × Row7)} (h : LS w0 w L) (i g : Nat) (cs : Array Value) (t : Nat) (hx : L[i]? = some (.pointer (some ⟨g, 0, none⟩), .b cs t)) : w.heap[g]? = some (.cells cs t (0, 0)) := by
 obtain ⟨g', e, hg⟩ := h.r (.pointer (some ⟨g, 0, none⟩), .b cs t) (List.mem_of_getElem? hx)
 injection e with e
 injection e with e
 injection e with e
 subst e
 exact hg
theorem LS.cell {w0 w : World} {L : List (Value × Row7)} (h : LS w0 w L) (i g : Nat) (cs : Array Value) (t : Nat) (hx : L[i]? = some (.pointer (some ⟨g, 0, none⟩), .b cs t)) (j : Nat) (v : Value) (hj : cs[j]? = some v) : w.cell? ⟨g, j, none⟩ = some v := by
 have hg := h.atB i g cs t hx
 simp [World.cell?, hg, hj]
variable {P : Program} {ops : Array Oper} {rest : List Oper} {o : Oper} {a : Act} {Q : Exit → Act → World → Prop}
theorem lit_u {w0 W : World} {L : List (Value × Row7)} (xs : List Int) (n : Nat) (hn : xs.length = n) (hm : n ≤ 100) (hgd : o.guard = none) {N : Tmp} (hd : o.dst = some N) (hS : LS w0 W L)
   (hrun : (execOp a.eval o).run P W = .ok (.value (.slice (some ⟨W.heap.size, 0, none⟩) n n)) (W.alloc (.cells (xs.map (Value.int .u32)).toArray 22)))
   (h : ∀ A w1, LS w0 w1 ((.slice A n n, .u xs) :: L) → wpList P ops Q rest (a.put o.dst (.slice A n n)) w1) : wpList P ops Q (o :: rest) a W := by
 subst hn
 exact Kd.event_run hgd hrun (h _ _ (hS.more (below_alloc (Below.refl _ _) _) ⟨_, _, rfl, Nat.le_refl _, C_block (Kd.int .u32) (alloc_at _ _) (reps_u _ xs) (by omega)⟩))
theorem lit_b {w0 W : World} {L : List (Value × Row7)} (cs : Array Value) (t : Nat) (hgd : o.guard = none) {N : Tmp} (hd : o.dst = some N) (hS : LS w0 W L)
   (hrun : (execOp a.eval o).run P W = .ok (.value (.pointer (some ⟨W.heap.size, 0, none⟩))) (W.alloc (.cells cs t)))
   (h : ∀ g w1, LS w0 w1 ((.pointer (some ⟨g, 0, none⟩), .b cs t) :: L) → wpList P ops Q rest (a.put o.dst (.pointer (some ⟨g, 0, none⟩))) w1) : wpList P ops Q (o :: rest) a W :=
 Kd.event_run hgd hrun (h _ _ (hS.more (below_alloc (Below.refl _ _) _) ⟨_, rfl, alloc_at _ _⟩))
theorem lit_f {w0 W : World} {L : List (Value × Row7)} (xs : List S52) (n : Nat) (cs : List Value) (hn : xs.length = n) (hm : n ≤ 100) (hgd : o.guard = none) {N : Tmp} (hd : o.dst = some N) (hS : LS w0 W L)
   (hcs : Reps (k52.K W) 2 xs cs)
   (hrun : (execOp a.eval o).run P W = .ok (.value (.slice (some ⟨W.heap.size, 0, none⟩) n n)) (W.alloc (.cells cs.toArray 52)))
   (h : ∀ A w1, LS w0 w1 ((.slice A n n, .f xs) :: L) → wpList P ops Q rest (a.put o.dst (.slice A n n)) w1) : wpList P ops Q (o :: rest) a W := by
 subst hn
 refine Kd.event_run hgd hrun (h _ _ (hS.more (below_alloc (Below.refl _ _) _) ⟨_, _, rfl, Nat.le_refl _, C_block k52 (alloc_at _ _) (hcs.imp_ (fun p c hp => k52.K_below (below_alloc (Below.refl _ _) _) hp)) (by omega)⟩))
theorem lit_i {w0 W : World} {L : List (Value × Row7)} (xs : List S56) (n : Nat) (cs : List Value) (hn : xs.length = n) (hm : n ≤ 100) (hgd : o.guard = none) {N : Tmp} (hd : o.dst = some N) (hS : LS w0 W L)
   (hcs : Reps (k56.K W) 2 xs cs)
   (hrun : (execOp a.eval o).run P W = .ok (.value (.slice (some ⟨W.heap.size, 0, none⟩) n n)) (W.alloc (.cells cs.toArray 56)))
   (h : ∀ A w1, LS w0 w1 ((.slice A n n, .i xs) :: L) → wpList P ops Q rest (a.put o.dst (.slice A n n)) w1) : wpList P ops Q (o :: rest) a W := by
 subst hn
 refine Kd.event_run hgd hrun (h _ _ (hS.more (below_alloc (Below.refl _ _) _) ⟨_, _, rfl, Nat.le_refl _, C_block k56 (alloc_at _ _) (hcs.imp_ (fun p c hp => k56.K_below (below_alloc (Below.refl _ _) _) hp)) (by omega)⟩))
section calls
variable {w0 w : World} {L : List (Value × Row7)}
theorem cFactor (hS : LS w0 w L) (k : Nat) (l : List Int) (p r1 : Int) (r2 : List S52) (n n2 : Nat) (hn : l.length = n) (hn2 : r2.length = n2) (hp : p < 14) (hf : modp_Factor.f k l p = some (r1, r2)) (A : Option Addr) (c : Nat) (hm : CV w (.slice A n c) l) :
   Calls Tryd.prog 22 #[.slice A n c, .int .u32 p] w fun e w' => ∃ A' c', e = .returned (.tuple #[.int .u32 r1, .slice A' n2 c']) ∧ LS w0 w' ((.slice A' n2 c', .f r2) :: L) := by
 obtain ⟨e, hl, hC⟩ := hm.C
 subst e; subst hn2
 refine (modp_Factor.calls k A c l p r1 r2 w hS.g hp hC hl hf).mono ?_
 rintro e w' ⟨A', c', rfl, hc', hC', hb⟩
 exact ⟨A', c', rfl, hS.more hb ⟨A', c', rfl, hc', hC'⟩⟩
theorem cDivMod (hS : LS w0 w L) (k : Nat) (l m : List Int) (p : Int) (q r : List Int) (er : Int) (n1 n2 nq nr : Nat) (hq : q.length = nq) (hr : r.length = nr) (hf : modp_DivMod.f k l m p = some (q, r, er)) (A B : Option Addr) (c d : Nat) (hm1 : CV w (.slice A n1 c) l) (hm2 : CV w (.slice B n2 d) m) :
   Calls Tryd.prog 15 #[.slice A n1 c, .slice B n2 d, .int .u32 p] w fun e w' => ∃ A1 c1 A2 c2, e = .returned (.tuple #[.slice A1 nq c1, .slice A2 nr c2, .int .i64 er]) ∧ LS w0 w' ((.slice A1 nq c1, .u q) :: (.slice A2 nr c2, .u r) :: L) := by
 obtain ⟨e1, hl1, hC1⟩ := hm1.C
 obtain ⟨e2, hl2, hC2⟩ := hm2.C
 subst e1; subst e2; subst hq; subst hr
 refine (modp_DivMod.calls k A c l B d m p q r er w hC1 hl1 hC2 hl2 hf).mono ?_
 rintro e w' ⟨v0, v1, rfl, h0, h1, hb⟩
 obtain ⟨A1, c1, rfl, hl1, hC1⟩ := h0
 obtain ⟨A2, c2, rfl, hl2, hC2⟩ := h1
 exact ⟨A1, c1, A2, c2, rfl, (hS.more hb (r := .u r) ⟨A2, c2, rfl, hl2, hC2⟩).more (Below.refl _ _) (r := .u q) ⟨A1, c1, rfl, hl1, hC1⟩⟩
theorem cPowMod (hS : LS w0 w L) (k : Nat) (l m f : List Int) (p : Int) (r : List Int) (er : Int) (n1 n2 n3 nr : Nat) (hr : r.length = nr) (hf : modp_PowMod.f k l m f p = some (r, er)) (A B D : Option Addr) (c d g : Nat) (hm1 : CV w (.slice A n1 c) l) (hm2 : CV w (.slice B n2 d) m) (hm3 : CV w (.slice D n3 g) f) :
   Calls Tryd.prog 20 #[.slice A n1 c, .slice B n2 d, .agg #[.slice D n3 g, .int .u32 p]] w fun e w' => ∃ A1 c1, e = .returned (.tuple #[.slice A1 nr c1, .int .i64 er]) ∧ LS w0 w' ((.slice A1 nr c1, .u r) :: L) := by
 obtain ⟨e1, hl1, hC1⟩ := hm1.C
 obtain ⟨e2, hl2, hC2⟩ := hm2.C
 obtain ⟨e3, hl3, hC3⟩ := hm3.C
 subst e1; subst e2; subst e3; subst hr
 refine (modp_PowMod.calls k A c l B d m D g f p r er w hC1 hl1 hC2 hl2 hC3 hl3 hf).mono ?_
 rintro e w' ⟨v0, rfl, h0, hb⟩
 obtain ⟨A1, c1, rfl, hl1, hC1⟩ := h0
 exact ⟨A1, c1, rfl, hS.more hb (r := .u r) ⟨A1, c1, rfl, hl1, hC1⟩⟩
theorem cGcd (hS : LS w0 w L) (k : Nat) (l m : List Int) (p : Int) (r : List Int) (n1 n2 nr : Nat) (hr : r.length = nr) (hf : modp_Gcd.f k l m p = some r) (A B : Option Addr) (c d : Nat) (hm1 : CV w (.slice A n1 c) l) (hm2 : CV w (.slice B n2 d) m) :
   Calls Tryd.prog 16 #[.slice A n1 c, .slice B n2 d, .int .u32 p] w fun e w' => ∃ A1 c1, e = .returned (.slice A1 nr c1) ∧ LS w0 w' ((.slice A1 nr c1, .u r) :: L) := by
 obtain ⟨e1, hl1, hC1⟩ := hm1.C
 obtain ⟨e2, hl2, hC2⟩ := hm2.C
 subst e1; subst e2; subst hr
 refine (modp_Gcd.calls k A c l B d m p r w hC1 hl1 hC2 hl2 hf).mono ?_
 rintro e w' ⟨v0, rfl, h0, hb⟩
 obtain ⟨A1, c1, rfl, hl1, hC1⟩ := h0
 exact ⟨A1, c1, rfl, hS.more hb (r := .u r) ⟨A1, c1, rfl, hl1, hC1⟩⟩
theorem cSameAll (hS : LS w0 w L) (k : Nat) (l m : List S52) (n1 n2 : Nat) (hf : zigguratref14_SameAll.f k l m = some true) (A B : Option Addr) (c d : Nat) (hm1 : RV w (.slice A n1 c) (.f l)) (hm2 : RV w (.slice B n2 d) (.f m)) :
   Calls Tryd.prog 23 #[.slice A n1 c, .slice B n2 d] w fun e w' => e = .returned (.bool true) ∧ LS w0 w' L := by
 obtain ⟨e1, hl1, hC1⟩ := RVf.C hm1
 obtain ⟨e2, hl2, hC2⟩ := RVf.C hm2
 subst e1; subst e2
 exact (zigguratref14_SameAll.calls k A c l B d m true w hC1 hl1 hC2 hl2 hf).mono (fun e w' ⟨he, hd⟩ => ⟨he, hS.drawn hd⟩)
theorem cSame (hS : LS w0 w L) (k : Nat) (l m : List Int) (n1 n2 : Nat) (hf : zigguratref14_Same.f k l m = some true) (A B : Option Addr) (c d : Nat) (hm1 : CV w (.slice A n1 c) l) (hm2 : CV w (.slice B n2 d) m) :
   Calls Tryd.prog 14 #[.slice A n1 c, .slice B n2 d] w fun e w' => e = .returned (.bool true) ∧ LS w0 w' L := by
 obtain ⟨e1, hl1, hC1⟩ := hm1.C
 obtain ⟨e2, hl2, hC2⟩ := hm2.C
 subst e1; subst e2
 exact (zigguratref14_Same.calls k A c l B d m true w hC1 hl1 hC2 hl2 hf).mono (fun e w' ⟨he, hd⟩ => ⟨he, hS.drawn hd⟩)
theorem cIrred (hS : LS w0 w L) (k : Nat) (l : List Int) (p : Int) (r : Bool) (n : Nat) (hp : p < 14) (hf : modp_Irred.f k l p = some r) (A : Option Addr) (c : Nat) (hm1 : CV w (.slice A n c) l) :
   Calls Tryd.prog 24 #[.slice A n c, .int .u32 p] w fun e w' => e = .returned (.bool r) ∧ LS w0 w' L := by
 obtain ⟨e1, hl1, hC1⟩ := hm1.C
 subst e1
 exact (modp_Irred.calls k A c l p r w hS.g hp hC1 hl1 hf).mono (fun e w' ⟨he, hb⟩ => ⟨he, hS.below hb⟩)
theorem cPrime (hS : LS w0 w L) (k : Nat) (p : Int) (r : Bool) (hf : modp_Prime.f k p = some r) :
   Calls Tryd.prog 25 #[.int .u32 p] w fun e w' => e = .returned (.bool r) ∧ LS w0 w' L :=
 (modp_Prime.calls k p r w hf).mono (fun e w' ⟨he, hd⟩ => ⟨he, hS.drawn hd⟩)
theorem cRight (hS : LS w0 w L) (k : Nat) (l : List Int) (p : Int) (r : Bool) (n : Nat) (hf : modp_Right.f k l p = some r) (A : Option Addr) (c : Nat) (hm1 : CV w (.slice A n c) l) :
   Calls Tryd.prog 26 #[.slice A n c, .int .u32 p] w fun e w' => e = .returned (.bool r) ∧ LS w0 w' L := by
 obtain ⟨e1, hl1, hC1⟩ := hm1.C
 subst e1
 exact (modp_Right.calls k A c l p r w hC1 hl1 hf).mono (fun e w' ⟨he, hd⟩ => ⟨he, hS.drawn hd⟩)
theorem cRefOf (hS : LS w0 w L) (k : Nat) (x : Int) (b : Bool) (r : List Int) (nr : Nat) (hr : r.length = nr) (hf : zigguratref06_Of.f k x = some (b, r)) :
   Calls Tryd.prog 28 #[.int .i64 x] w fun e w' => ∃ A1 c1, e = .returned (.agg #[.bool b, .slice A1 nr c1]) ∧ LS w0 w' ((.slice A1 nr c1, .u r) :: L) := by
 subst hr
 refine (zigguratref06_Of.calls k x b r w hf).mono ?_
 rintro e w' ⟨v0, rfl, h0, hb⟩
 obtain ⟨A1, c1, rfl, hl1, hC1⟩ := Kd.R_reads h0
 exact ⟨A1, c1, rfl, hS.more hb (r := .u r) ⟨A1, c1, rfl, hl1, hC1⟩⟩
theorem cReduce7 (hS : LS w0 w L) (A : Option Addr) (c : Nat) (hm1 : RV w (.slice A 3 c) (.i [⟨true, [1]⟩, ⟨false, [9]⟩, ⟨false, [14]⟩])) :
   Calls Tryd.prog 27 #[.slice A 3 c, .int .u32 7] w fun e w' => ∃ A1 c1, e = .returned (.slice A1 2 c1) ∧ LS w0 w' ((.slice A1 2 c1, .u [6, 2]) :: L) := by
 obtain ⟨e1, hl1, hC1⟩ := RVi.C hm1
 refine (reduce7 A c w hC1).mono ?_
 rintro e w' ⟨v0, rfl, h0, hb⟩
 obtain ⟨A1, c1, rfl, hl1, hC1⟩ := h0
 exact ⟨A1, c1, rfl, hS.more hb (r := .u [6, 2]) ⟨A1, c1, rfl, hl1, hC1⟩⟩
end calls
end Go.Proofs.YtofbpjpdahcghaaDoor.Q
namespace Go.Proofs.YtofbpjpdahcghaaDoor.Q
open Go.RowKit
set_option maxRecDepth 100000
theorem v1 : modp_Factor.f 300 [1, 0, 1] 5 = some (1, [⟨[2, 1], 1⟩, ⟨[3, 1], 1⟩]) := by kernel_rfl
theorem v2 : modp_Factor.f 300 [2, 0, 0, 0, 2] 3 = some (2, [⟨[2, 1, 1], 1⟩, ⟨[2, 2, 1], 1⟩]) := by kernel_rfl
theorem v3 : modp_Factor.f 300 [0, 0, 1] 2 = some (1, [⟨[0, 1], 2⟩]) := by kernel_rfl
theorem v4 : modp_Factor.f 300 [] 7 = some (0, []) := by kernel_rfl
theorem v5 : modp_DivMod.f 60 [1, 2, 3] [4, 5] 7 = some ([3, 2], [3], 0) := by kernel_rfl
theorem v6 : modp_DivMod.f 60 [1] [] 7 = some ([], [], 3) := by kernel_rfl
theorem v7 : modp_PowMod.f 60 [0, 1] [5] [1, 0, 1] 7 = some ([0, 1], 0) := by kernel_rfl
theorem v8 : modp_PowMod.f 60 [1] [5] [3] 7 = some ([], 1) := by kernel_rfl
theorem v9 : modp_PowMod.f 60 [1] [5] [] 7 = some ([], 3) := by kernel_rfl
theorem v10 : modp_Gcd.f 60 [2, 3, 1] [3, 4, 1] 5 = some [1, 1] := by kernel_rfl
theorem v11 : zigguratref14_SameAll.f 60 [⟨[2, 1], 1⟩, ⟨[3, 1], 1⟩] [⟨[2, 1], 1⟩, ⟨[3, 1], 1⟩] = some true := by kernel_rfl
theorem v12 : zigguratref14_SameAll.f 60 [⟨[2, 1, 1], 1⟩, ⟨[2, 2, 1], 1⟩] [⟨[2, 1, 1], 1⟩, ⟨[2, 2, 1], 1⟩] = some true := by kernel_rfl
theorem v13 : zigguratref14_SameAll.f 60 [⟨[0, 1], 2⟩] [⟨[0, 1], 2⟩] = some true := by kernel_rfl
theorem v14 : zigguratref14_Same.f 60 [3, 2] [3, 2] = some true := by kernel_rfl
theorem v15 : zigguratref14_Same.f 60 [3] [3] = some true := by kernel_rfl
theorem v16 : zigguratref14_Same.f 60 [0, 1] [0, 1] = some true := by kernel_rfl
theorem v17 : zigguratref14_Same.f 60 [1, 1] [1, 1] = some true := by kernel_rfl
theorem v18 : modp_Irred.f 60 [1, 0, 1] 7 = some true := by kernel_rfl
theorem v19 : modp_Irred.f 60 [3] 7 = some false := by kernel_rfl
theorem v20 : modp_Prime.f 200 65521 = some true := by kernel_rfl
theorem v21 : modp_Prime.f 200 65537 = some false := by kernel_rfl
theorem v22 : modp_Prime.f 200 1 = some false := by kernel_rfl
theorem v23 : modp_Prime.f 200 2 = some true := by kernel_rfl
theorem v24 : modp_Right.f 60 [7] 7 = some false := by kernel_rfl
theorem v25 : modp_Right.f 60 [1, 0] 7 = some false := by kernel_rfl
theorem v26 : modp_Right.f 60 [] 7 = some true := by kernel_rfl
theorem v27 : zigguratref06_Of.f 60 (-1) = some (true, [1]) := by kernel_rfl
theorem v28 : zigguratref06_Of.f 60 9 = some (false, [9]) := by kernel_rfl
theorem v29 : zigguratref06_Of.f 60 14 = some (false, [14]) := by kernel_rfl
theorem v31 : zigguratref14_Same.f 60 [6, 2] [6, 2] = some true := by kernel_rfl
end Go.Proofs.YtofbpjpdahcghaaDoor.Q
namespace Go.Proofs.YtofbpjpdahcghaaDoor.Q
open Go.RowKit Go.Proofs.YtofbpjpdahcghaaDoorW.PrintWords Go.Proofs.YtofbpjpdahcghaaDoorW.PrintLast Go.Proofs.YtofbpjpdahcghaaDoorW.PrintMore
set_option linter.unusedVariables false
set_option linter.unusedSimpArgs false
theorem head_calls (w : World) (hG : GW w) : Calls Tryd.prog 7 #[] w fun e w' => e = .returned (.bool true) ∧ Below w.heap.size w w' := by
 have HS : Aside0 (LS w w []) := ⟨⟨Below.refl _ _, hG, fun x hx => by cases hx⟩⟩
 have hu42 := Tryd.underlying42
 have hu52 := Tryd.underlying52
 have hu56 := Tryd.underlying56
 clear hG
 go_enter Tryd.func7, Tryd.ntmps7
 (try simp only [List.append])
 go_wp2_with (first | ((with_reducible refine gate_dst (N := 23) rfl ?_); (try (refine gate_guard (by rfl) ?_; dsimp only)); refine lit_u [1, 0, 1] 3 rfl (by decide) rF (N := 23) rF HS.out gF ?_; intro A23 w23 hs_; replace HS := am hs_; clear hs_) | ((with_reducible refine gate_callee (f := 22) rfl ?_); refine goesA (some 24) Tryd.func22 #[.slice A23 3 3, .int .u32 5] ?_; (with_reducible refine (cFactor HS.out 300 [1, 0, 1] 5 1 [⟨[2, 1], 1⟩, ⟨[3, 1], 1⟩] 3 2 rfl rfl (by decide) v1 A23 3 (HS.out.atU 0 _ _ rfl)).mono ?_); rintro e w24 ⟨B24, c24, rfl, hs_⟩; refine ⟨_, rfl, ?_⟩; replace HS := am hs_; clear hs_) | ((with_reducible refine gate_dst (N := 28) rfl ?_); (try (refine gate_guard (by rfl) ?_; dsimp only)); refine lit_u [2, 0, 0, 0, 2] 5 rfl (by decide) rF (N := 28) rF HS.out gF ?_; intro A28 w28 hs_; replace HS := am hs_; clear hs_) | ((with_reducible refine gate_callee (f := 22) rfl ?_); refine goesA (some 29) Tryd.func22 #[.slice A28 5 5, .int .u32 3] ?_; (with_reducible refine (cFactor HS.out 300 [2, 0, 0, 0, 2] 3 2 [⟨[2, 1, 1], 1⟩, ⟨[2, 2, 1], 1⟩] 5 2 rfl rfl (by decide) v2 A28 5 (HS.out.atU 0 _ _ rfl)).mono ?_); rintro e w29 ⟨B29, c29, rfl, hs_⟩; refine ⟨_, rfl, ?_⟩; replace HS := am hs_; clear hs_) | ((with_reducible refine gate_dst (N := 33) rfl ?_); (try (refine gate_guard (by rfl) ?_; dsimp only)); refine lit_u [0, 0, 1] 3 rfl (by decide) rF (N := 33) rF HS.out gF ?_; intro A33 w33 hs_; replace HS := am hs_; clear hs_) | ((with_reducible refine gate_callee (f := 22) rfl ?_); refine goesA (some 34) Tryd.func22 #[.slice A33 3 3, .int .u32 2] ?_; (with_reducible refine (cFactor HS.out 300 [0, 0, 1] 2 1 [⟨[0, 1], 2⟩] 3 1 rfl rfl (by decide) v3 A33 3 (HS.out.atU 0 _ _ rfl)).mono ?_); rintro e w34 ⟨B34, c34, rfl, hs_⟩; refine ⟨_, rfl, ?_⟩; replace HS := am hs_; clear hs_) | ((with_reducible refine gate_callee (f := 22) rfl ?_); refine goesA (some 38) Tryd.func22 #[.slice none 0 0, .int .u32 7] ?_; (with_reducible refine (cFactor HS.out 300 [] 7 0 [] 0 0 rfl rfl (by decide) v4 none 0 (CV_nil _)).mono ?_); rintro e w38 ⟨B38, c38, rfl, hs_⟩; refine ⟨_, rfl, ?_⟩; replace HS := am hs_; clear hs_) | ((with_reducible refine gate_dst (N := 42) rfl ?_); (try (refine gate_guard (by rfl) ?_; dsimp only)); refine lit_u [1, 2, 3] 3 rfl (by decide) rF (N := 42) rF HS.out gF ?_; intro A42 w42 hs_; replace HS := am hs_; clear hs_) | ((with_reducible refine gate_dst (N := 43) rfl ?_); (try (refine gate_guard (by rfl) ?_; dsimp only)); refine lit_u [4, 5] 2 rfl (by decide) rF (N := 43) rF HS.out gF ?_; intro A43 w43 hs_; replace HS := am hs_; clear hs_) | ((with_reducible refine gate_callee (f := 15) rfl ?_); refine goesA (some 44) Tryd.func15 #[.slice A42 3 3, .slice A43 2 2, .int .u32 7] ?_; (with_reducible refine (cDivMod HS.out 60 [1, 2, 3] [4, 5] 7 [3, 2] [3] 0 3 2 2 1 rfl rfl v5 A42 A43 3 2 (HS.out.atU 1 _ _ rfl) (HS.out.atU 0 _ _ rfl)).mono ?_); rintro e w44 ⟨B44, c44, D44, d44, rfl, hs_⟩; refine ⟨_, rfl, ?_⟩; replace HS := am hs_; clear hs_) | ((with_reducible refine gate_dst (N := 49) rfl ?_); (try (refine gate_guard (by rfl) ?_; dsimp only)); refine lit_u [1] 1 rfl (by decide) rF (N := 49) rF HS.out gF ?_; intro A49 w49 hs_; replace HS := am hs_; clear hs_) | ((with_reducible refine gate_callee (f := 15) rfl ?_); refine goesA (some 50) Tryd.func15 #[.slice A49 1 1, .slice none 0 0, .int .u32 7] ?_; (with_reducible refine (cDivMod HS.out 60 [1] [] 7 [] [] 3 1 0 0 0 rfl rfl v6 A49 none 1 0 (HS.out.atU 0 _ _ rfl) (CV_nil _)).mono ?_); rintro e w50 ⟨B50, c50, D50, d50, rfl, hs_⟩; refine ⟨_, rfl, ?_⟩; replace HS := am hs_; clear hs_) | ((with_reducible refine gate_dst (N := 55) rfl ?_); (try (refine gate_guard (by rfl) ?_; dsimp only)); refine lit_u [0, 1] 2 rfl (by decide) rF (N := 55) rF HS.out gF ?_; intro A55 w55 hs_; replace HS := am hs_; clear hs_) | ((with_reducible refine gate_dst (N := 56) rfl ?_); (try (refine gate_guard (by rfl) ?_; dsimp only)); refine lit_u [5] 1 rfl (by decide) rF (N := 56) rF HS.out gF ?_; intro A56 w56 hs_; replace HS := am hs_; clear hs_) | ((with_reducible refine gate_dst (N := 57) rfl ?_); (try (refine gate_guard (by rfl) ?_; dsimp only)); refine lit_u [1, 0, 1] 3 rfl (by decide) rF (N := 57) rF HS.out gF ?_; intro A57 w57 hs_; replace HS := am hs_; clear hs_) | ((with_reducible refine gate_callee (f := 20) rfl ?_); refine goesA (some 59) Tryd.func20 #[.slice A55 2 2, .slice A56 1 1, .agg #[.slice A57 3 3, .int .u32 7]] ?_; (with_reducible refine (cPowMod HS.out 60 [0, 1] [5] [1, 0, 1] 7 [0, 1] 0 2 1 3 2 rfl v7 A55 A56 A57 2 1 3 (HS.out.atU 2 _ _ rfl) (HS.out.atU 1 _ _ rfl) (HS.out.atU 0 _ _ rfl)).mono ?_); rintro e w59 ⟨B59, c59, rfl, hs_⟩; refine ⟨_, rfl, ?_⟩; replace HS := am hs_; clear hs_) | ((with_reducible refine gate_dst (N := 63) rfl ?_); (try (refine gate_guard (by rfl) ?_; dsimp only)); refine lit_u [1] 1 rfl (by decide) rF (N := 63) rF HS.out gF ?_; intro A63 w63 hs_; replace HS := am hs_; clear hs_) | ((with_reducible refine gate_dst (N := 64) rfl ?_); (try (refine gate_guard (by rfl) ?_; dsimp only)); refine lit_u [5] 1 rfl (by decide) rF (N := 64) rF HS.out gF ?_; intro A64 w64 hs_; replace HS := am hs_; clear hs_) | ((with_reducible refine gate_dst (N := 65) rfl ?_); (try (refine gate_guard (by rfl) ?_; dsimp only)); refine lit_u [3] 1 rfl (by decide) rF (N := 65) rF HS.out gF ?_; intro A65 w65 hs_; replace HS := am hs_; clear hs_) | ((with_reducible refine gate_callee (f := 20) rfl ?_); refine goesA (some 67) Tryd.func20 #[.slice A63 1 1, .slice A64 1 1, .agg #[.slice A65 1 1, .int .u32 7]] ?_; (with_reducible refine (cPowMod HS.out 60 [1] [5] [3] 7 [] 1 1 1 1 0 rfl v8 A63 A64 A65 1 1 1 (HS.out.atU 2 _ _ rfl) (HS.out.atU 1 _ _ rfl) (HS.out.atU 0 _ _ rfl)).mono ?_); rintro e w67 ⟨B67, c67, rfl, hs_⟩; refine ⟨_, rfl, ?_⟩; replace HS := am hs_; clear hs_) | ((with_reducible refine gate_dst (N := 71) rfl ?_); (try (refine gate_guard (by rfl) ?_; dsimp only)); refine lit_u [1] 1 rfl (by decide) rF (N := 71) rF HS.out gF ?_; intro A71 w71 hs_; replace HS := am hs_; clear hs_) | ((with_reducible refine gate_dst (N := 72) rfl ?_); (try (refine gate_guard (by rfl) ?_; dsimp only)); refine lit_u [5] 1 rfl (by decide) rF (N := 72) rF HS.out gF ?_; intro A72 w72 hs_; replace HS := am hs_; clear hs_) | ((with_reducible refine gate_callee (f := 20) rfl ?_); refine goesA (some 74) Tryd.func20 #[.slice A71 1 1, .slice A72 1 1, .agg #[.slice none 0 0, .int .u32 7]] ?_; (with_reducible refine (cPowMod HS.out 60 [1] [5] [] 7 [] 3 1 1 0 0 rfl v9 A71 A72 none 1 1 0 (HS.out.atU 1 _ _ rfl) (HS.out.atU 0 _ _ rfl) (CV_nil _)).mono ?_); rintro e w74 ⟨B74, c74, rfl, hs_⟩; refine ⟨_, rfl, ?_⟩; replace HS := am hs_; clear hs_) | ((with_reducible refine gate_dst (N := 77) rfl ?_); (try (refine gate_guard (by rfl) ?_; dsimp only)); refine lit_u [2, 3, 1] 3 rfl (by decide) rF (N := 77) rF HS.out gF ?_; intro A77 w77 hs_; replace HS := am hs_; clear hs_) | ((with_reducible refine gate_dst (N := 78) rfl ?_); (try (refine gate_guard (by rfl) ?_; dsimp only)); refine lit_u [3, 4, 1] 3 rfl (by decide) rF (N := 78) rF HS.out gF ?_; intro A78 w78 hs_; replace HS := am hs_; clear hs_) | ((with_reducible refine gate_callee (f := 16) rfl ?_); refine goesA (some 79) Tryd.func16 #[.slice A77 3 3, .slice A78 3 3, .int .u32 5] ?_; (with_reducible refine (cGcd HS.out 60 [2, 3, 1] [3, 4, 1] 5 [1, 1] 3 3 2 rfl v10 A77 A78 3 3 (HS.out.atU 1 _ _ rfl) (HS.out.atU 0 _ _ rfl)).mono ?_); rintro e w79 ⟨B79, c79, rfl, hs_⟩; refine ⟨_, rfl, ?_⟩; replace HS := am hs_; clear hs_) | ((with_reducible refine gate_dst (N := 92) rfl ?_); (try (refine gate_guard (by rfl) ?_; dsimp only)); refine lit_u [2, 1] 2 rfl (by decide) rF (N := 92) rF HS.out gF ?_; intro A92 w92 hs_; replace HS := am hs_; clear hs_) | ((with_reducible refine gate_dst (N := 94) rfl ?_); (try (refine gate_guard (by rfl) ?_; dsimp only)); refine lit_u [3, 1] 2 rfl (by decide) rF (N := 94) rF HS.out gF ?_; intro A94 w94 hs_; replace HS := am hs_; clear hs_) | ((with_reducible refine gate_dst (N := 96) rfl ?_); (try (refine gate_guard (by rfl) ?_; dsimp only)); refine lit_f [⟨[2, 1], 1⟩, ⟨[3, 1], 1⟩] 2 [.slice A92 2 2, .int .i64 1, .slice A94 2 2, .int .i64 1] rfl (by decide) ?hg (N := 96) ?hd HS.out ?hcs ?hr ?_; (case hd => rfl); (case hg => rfl); (case hcs => exact (Reps.two (K52_of (HS.out.atU 1 _ _ rfl) 1) (Reps.two (K52_of (HS.out.atU 0 _ _ rfl) 1) (Reps.none _ _)))); (case hr => first | (go_simp; done) | (go_simp; rfl)); intro A96 w96 hs_; replace HS := am hs_; clear hs_) | (go_at_call 23; (with_reducible refine (cSameAll HS.out 60 [⟨[2, 1], 1⟩, ⟨[3, 1], 1⟩] [⟨[2, 1], 1⟩, ⟨[3, 1], 1⟩] 2 2 v11 B24 A96 c24 2 (HS.out.atF 29 _ _ rfl) (HS.out.atF 0 _ _ rfl)).mono ?_); rintro e w97 ⟨rfl, hs_⟩; replace HS := am hs_; clear hs_) | ((with_reducible refine gate_dst (N := 105) rfl ?_); (try (refine gate_guard (by rfl) ?_; dsimp only)); refine lit_u [2, 1, 1] 3 rfl (by decide) rF (N := 105) rF HS.out gF ?_; intro A105 w105 hs_; replace HS := am hs_; clear hs_) | ((with_reducible refine gate_dst (N := 107) rfl ?_); (try (refine gate_guard (by rfl) ?_; dsimp only)); refine lit_u [2, 2, 1] 3 rfl (by decide) rF (N := 107) rF HS.out gF ?_; intro A107 w107 hs_; replace HS := am hs_; clear hs_) | ((with_reducible refine gate_dst (N := 109) rfl ?_); (try (refine gate_guard (by rfl) ?_; dsimp only)); refine lit_f [⟨[2, 1, 1], 1⟩, ⟨[2, 2, 1], 1⟩] 2 [.slice A105 3 3, .int .i64 1, .slice A107 3 3, .int .i64 1] rfl (by decide) ?hg (N := 109) ?hd HS.out ?hcs ?hr ?_; (case hd => rfl); (case hg => rfl); (case hcs => exact (Reps.two (K52_of (HS.out.atU 1 _ _ rfl) 1) (Reps.two (K52_of (HS.out.atU 0 _ _ rfl) 1) (Reps.none _ _)))); (case hr => first | (go_simp; done) | (go_simp; rfl)); intro A109 w109 hs_; replace HS := am hs_; clear hs_) | (go_at_call 23; (with_reducible refine (cSameAll HS.out 60 [⟨[2, 1, 1], 1⟩, ⟨[2, 2, 1], 1⟩] [⟨[2, 1, 1], 1⟩, ⟨[2, 2, 1], 1⟩] 2 2 v12 B29 A109 c29 2 (HS.out.atF 30 _ _ rfl) (HS.out.atF 0 _ _ rfl)).mono ?_); rintro e w110 ⟨rfl, hs_⟩; replace HS := am hs_; clear hs_) | ((with_reducible refine gate_dst (N := 118) rfl ?_); (try (refine gate_guard (by rfl) ?_; dsimp only)); refine lit_u [0, 1] 2 rfl (by decide) rF (N := 118) rF HS.out gF ?_; intro A118 w118 hs_; replace HS := am hs_; clear hs_) | ((with_reducible refine gate_dst (N := 120) rfl ?_); (try (refine gate_guard (by rfl) ?_; dsimp only)); refine lit_f [⟨[0, 1], 2⟩] 1 [.slice A118 2 2, .int .i64 2] rfl (by decide) ?hg (N := 120) ?hd HS.out ?hcs ?hr ?_; (case hd => rfl); (case hg => rfl); (case hcs => exact (Reps.two (K52_of (HS.out.atU 0 _ _ rfl) 2) (Reps.none _ _))); (case hr => first | (go_simp; done) | (go_simp; rfl)); intro A120 w120 hs_; replace HS := am hs_; clear hs_) | (go_at_call 23; (with_reducible refine (cSameAll HS.out 60 [⟨[0, 1], 2⟩] [⟨[0, 1], 2⟩] 1 1 v13 B34 A120 c34 1 (HS.out.atF 30 _ _ rfl) (HS.out.atF 0 _ _ rfl)).mono ?_); rintro e w121 ⟨rfl, hs_⟩; replace HS := am hs_; clear hs_) | ((with_reducible refine gate_dst (N := 134) rfl ?_); (try (refine gate_guard (by rfl) ?_; dsimp only)); refine lit_u [3, 2] 2 rfl (by decide) rF (N := 134) rF HS.out gF ?_; intro A134 w134 hs_; replace HS := am hs_; clear hs_) | (go_at_call 14; (with_reducible refine (cSame HS.out 60 [3, 2] [3, 2] 2 2 v14 B44 A134 c44 2 (HS.out.atU 26 _ _ rfl) (HS.out.atU 0 _ _ rfl)).mono ?_); rintro e w135 ⟨rfl, hs_⟩; replace HS := am hs_; clear hs_) | ((with_reducible refine gate_dst (N := 139) rfl ?_); (try (refine gate_guard (by rfl) ?_; dsimp only)); refine lit_u [3] 1 rfl (by decide) rF (N := 139) rF HS.out gF ?_; intro A139 w139 hs_; replace HS := am hs_; clear hs_) | (go_at_call 14; (with_reducible refine (cSame HS.out 60 [3] [3] 1 1 v15 D44 A139 d44 1 (HS.out.atU 28 _ _ rfl) (HS.out.atU 0 _ _ rfl)).mono ?_); rintro e w140 ⟨rfl, hs_⟩; replace HS := am hs_; clear hs_) | ((with_reducible refine gate_dst (N := 152) rfl ?_); (try (refine gate_guard (by rfl) ?_; dsimp only)); refine lit_u [0, 1] 2 rfl (by decide) rF (N := 152) rF HS.out gF ?_; intro A152 w152 hs_; replace HS := am hs_; clear hs_) | (go_at_call 14; (with_reducible refine (cSame HS.out 60 [0, 1] [0, 1] 2 2 v16 B59 A152 c59 2 (HS.out.atU 21 _ _ rfl) (HS.out.atU 0 _ _ rfl)).mono ?_); rintro e w153 ⟨rfl, hs_⟩; replace HS := am hs_; clear hs_) | ((with_reducible refine gate_dst (N := 169) rfl ?_); (try (refine gate_guard (by rfl) ?_; dsimp only)); refine lit_u [1, 1] 2 rfl (by decide) rF (N := 169) rF HS.out gF ?_; intro A169 w169 hs_; replace HS := am hs_; clear hs_) | (go_at_call 14; (with_reducible refine (cSame HS.out 60 [1, 1] [1, 1] 2 2 v17 B79 A169 c79 2 (HS.out.atU 12 _ _ rfl) (HS.out.atU 0 _ _ rfl)).mono ?_); rintro e w170 ⟨rfl, hs_⟩; replace HS := am hs_; clear hs_) | ((with_reducible refine gate_dst (N := 173) rfl ?_); (try (refine gate_guard (by rfl) ?_; dsimp only)); refine lit_u [1, 0, 1] 3 rfl (by decide) rF (N := 173) rF HS.out gF ?_; intro A173 w173 hs_; replace HS := am hs_; clear hs_) | (go_at_call 24; (with_reducible refine (cIrred HS.out 60 [1, 0, 1] 7 true 3 (by decide) v18 A173 3 (HS.out.atU 0 _ _ rfl)).mono ?_); rintro e w174 ⟨rfl, hs_⟩; replace HS := am hs_; clear hs_) | ((with_reducible refine gate_dst (N := 177) rfl ?_); (try (refine gate_guard (by rfl) ?_; dsimp only)); refine lit_u [3] 1 rfl (by decide) rF (N := 177) rF HS.out gF ?_; intro A177 w177 hs_; replace HS := am hs_; clear hs_) | (go_at_call 24; (with_reducible refine (cIrred HS.out 60 [3] 7 false 1 (by decide) v19 A177 1 (HS.out.atU 0 _ _ rfl)).mono ?_); rintro e w178 ⟨rfl, hs_⟩; replace HS := am hs_; clear hs_) | (go_at_call 25; (with_reducible refine (cPrime HS.out 200 65521 true v20).mono ?_); rintro e w182 ⟨rfl, hs_⟩; replace HS := am hs_; clear hs_) | (go_at_call 25; (with_reducible refine (cPrime HS.out 200 65537 false v21).mono ?_); rintro e w185 ⟨rfl, hs_⟩; replace HS := am hs_; clear hs_) | (go_at_call 25; (with_reducible refine (cPrime HS.out 200 1 false v22).mono ?_); rintro e w189 ⟨rfl, hs_⟩; replace HS := am hs_; clear hs_) | (go_at_call 25; (with_reducible refine (cPrime HS.out 200 2 true v23).mono ?_); rintro e w193 ⟨rfl, hs_⟩; replace HS := am hs_; clear hs_) | ((with_reducible refine gate_dst (N := 196) rfl ?_); (try (refine gate_guard (by rfl) ?_; dsimp only)); refine lit_u [7] 1 rfl (by decide) rF (N := 196) rF HS.out gF ?_; intro A196 w196 hs_; replace HS := am hs_; clear hs_) | (go_at_call 26; (with_reducible refine (cRight HS.out 60 [7] 7 false 1 v24 A196 1 (HS.out.atU 0 _ _ rfl)).mono ?_); rintro e w197 ⟨rfl, hs_⟩; replace HS := am hs_; clear hs_) | ((with_reducible refine gate_dst (N := 201) rfl ?_); (try (refine gate_guard (by rfl) ?_; dsimp only)); refine lit_u [1, 0] 2 rfl (by decide) rF (N := 201) rF HS.out gF ?_; intro A201 w201 hs_; replace HS := am hs_; clear hs_) | (go_at_call 26; (with_reducible refine (cRight HS.out 60 [1, 0] 7 false 2 v25 A201 2 (HS.out.atU 0 _ _ rfl)).mono ?_); rintro e w202 ⟨rfl, hs_⟩; replace HS := am hs_; clear hs_) | (go_at_call 26; (with_reducible refine (cRight HS.out 60 [] 7 true 0 v26 none 0 (CV_nil _)).mono ?_); rintro e w206 ⟨rfl, hs_⟩; replace HS := am hs_; clear hs_) | (go_at_call 28; (with_reducible refine (cRefOf HS.out 60 (-1) true [1] 1 rfl v27).mono ?_); rintro e w209 ⟨B209, c209, rfl, hs_⟩; replace HS := am hs_; clear hs_) | (go_at_call 28; (with_reducible refine (cRefOf HS.out 60 9 false [9] 1 rfl v28).mono ?_); rintro e w210 ⟨B210, c210, rfl, hs_⟩; replace HS := am hs_; clear hs_) | (go_at_call 28; (with_reducible refine (cRefOf HS.out 60 14 false [14] 1 rfl v29).mono ?_); rintro e w211 ⟨B211, c211, rfl, hs_⟩; replace HS := am hs_; clear hs_) | ((with_reducible refine gate_dst (N := 212) rfl ?_); (try (refine gate_guard (by rfl) ?_; dsimp only)); refine lit_i [⟨true, [1]⟩, ⟨false, [9]⟩, ⟨false, [14]⟩] 3 [.bool true, .slice B209 1 c209, .bool false, .slice B210 1 c210, .bool false, .slice B211 1 c211] rfl (by decide) ?hg (N := 212) ?hd HS.out ?hcs ?hr ?_; (case hd => rfl); (case hg => rfl); (case hcs => exact (Reps.two (K56_of (HS.out.atU 2 _ _ rfl) true) (Reps.two (K56_of (HS.out.atU 1 _ _ rfl) false) (Reps.two (K56_of (HS.out.atU 0 _ _ rfl) false) (Reps.none _ _))))); (case hr => first | (go_simp; done) | (go_simp; rfl)); intro A212 w212 hs_; replace HS := am hs_; clear hs_) | (go_at_call 27; (with_reducible refine (cReduce7 HS.out A212 3 (HS.out.atI 0 _ _ rfl)).mono ?_); rintro e w213 ⟨B213, c213, rfl, hs_⟩; replace HS := am hs_; clear hs_) | ((with_reducible refine gate_dst (N := 214) rfl ?_); (try (refine gate_guard (by rfl) ?_; dsimp only)); refine lit_u [6, 2] 2 rfl (by decide) rF (N := 214) rF HS.out gF ?_; intro A214 w214 hs_; replace HS := am hs_; clear hs_) | (go_at_call 14; (with_reducible refine (cSame HS.out 60 [6, 2] [6, 2] 2 2 v31 B213 A214 c213 2 (HS.out.atU 1 _ _ rfl) (HS.out.atU 0 _ _ rfl)).mono ?_); rintro e w215 ⟨rfl, hs_⟩; replace HS := am hs_; clear hs_))
 go_ret
 exact ⟨by first | rfl | (simp; done), HS.out.b⟩
section calls
variable {w0 w : World} {L : List (Value × Row7)}
theorem lHead (hS : LS w0 w L) : Calls Tryd.prog 7 #[] w fun e w' => e = .returned (.bool true) ∧ LS w0 w' L :=
 (head_calls w hS.g).mono (fun e w' ⟨he, hb⟩ => ⟨he, hS.below hb⟩)
theorem lOf (hS : LS w0 w L) (k : Nat) (x r : Int) (hf : zigguratref14_Of.f k x = some r) : Calls Tryd.prog 8 #[.int .u32 x] w fun e w' => e = .returned (.int .u32 r) ∧ LS w0 w' L :=
 (zigguratref14_Of.calls k x r w hf).mono (fun e w' ⟨he, hd⟩ => ⟨he, hS.drawn hd⟩)
theorem gR {f : Nat} {args : Array Value} {base : Nat} {ok : Nat → Prop} {r : List Int} (hS : LS w0 w L) (h : Calls Tryd.prog f args w fun e w' => ∃ v0_ : Value, e = .returned v0_ ∧ Kd.R (Kd.int .u32) 22 w' base ok v0_ r ∧ Below w.heap.size w w') :
   Calls Tryd.prog f args w fun e w' => ∃ A c, e = .returned (.slice A r.length c) ∧ LS w0 w' ((.slice A r.length c, .u r) :: L) := by
 refine h.mono ?_
 rintro e w' ⟨v0, rfl, h0, hb⟩
 obtain ⟨A1, c1, rfl, hl1, hC1⟩ := Kd.R_reads h0
 exact ⟨A1, c1, rfl, hS.more hb (r := .u r) ⟨A1, c1, rfl, hl1, hC1⟩⟩
theorem gV {f : Nat} {args : Array Value} {base : Nat} {ok : Nat → Prop} {r : List Int} (hS : LS w0 w L) (h : Calls Tryd.prog f args w fun e w' => ∃ v0_ : Value, e = .returned v0_ ∧ Kd.V (Kd.int .u32) 22 w' base ok v0_ r ∧ Below w.heap.size w w') :
   Calls Tryd.prog f args w fun e w' => ∃ A c, e = .returned (.slice A r.length c) ∧ LS w0 w' ((.slice A r.length c, .u r) :: L) := by
 refine h.mono ?_
 rintro e w' ⟨v0, rfl, h0, hb⟩
 obtain ⟨A1, c1, rfl, hl1, hC1⟩ := CV_of h0
 exact ⟨A1, c1, rfl, hS.more hb (r := .u r) ⟨A1, c1, rfl, hl1, hC1⟩⟩
theorem gC {f : Nat} {args : Array Value} {r : List Int} (hS : LS w0 w L) (h : Calls Tryd.prog f args w fun e w' => ∃ v0_ : Value, e = .returned v0_ ∧ CV w' v0_ r ∧ Below w.heap.size w w') :
   Calls Tryd.prog f args w fun e w' => ∃ A c, e = .returned (.slice A r.length c) ∧ LS w0 w' ((.slice A r.length c, .u r) :: L) := by
 refine h.mono ?_
 rintro e w' ⟨v0, rfl, ⟨A1, c1, rfl, hl1, hC1⟩, hb⟩
 exact ⟨A1, c1, rfl, hS.more hb (r := .u r) ⟨A1, c1, rfl, hl1, hC1⟩⟩
theorem lMade (hS : LS w0 w L) (k : Nat) (l : List Int) (p m : Int) (r : List Int) (hf : zigguratref14_Made.f k l p m = some r) (A : Option Addr) (c : Nat) (hm : CV w (.slice A l.length c) l) :
   Calls Tryd.prog 9 #[.slice A l.length c, .int .u32 p, .int .i64 m] w fun e w' => ∃ A1 c1, e = .returned (.slice A1 r.length c1) ∧ LS w0 w' ((.slice A1 r.length c1, .u r) :: L) :=
 gR hS (zigguratref14_Made.calls k A c l p m r w hm.C.2.2 hm.C.2.1 hf)
theorem lMade19 (hS : LS w0 w L) (k : Nat) (l : List Int) (m : Int) (r : List Int) (hf : zigguratref01_Made.f k l m = some r) (A : Option Addr) (c : Nat) (hm : CV w (.slice A l.length c) l) :
   Calls Tryd.prog 19 #[.slice A l.length c, .int .i64 m] w fun e w' => ∃ A1 c1, e = .returned (.slice A1 r.length c1) ∧ LS w0 w' ((.slice A1 r.length c1, .u r) :: L) :=
 gR hS (zigguratref01_Made.calls k A c l m r w hm.C.2.2 hm.C.2.1 hf)
theorem lAdd21 (hS : LS w0 w L) (k : Nat) (l m : List Int) (r : List Int) (hf : zigguratref01_Add.f k l m = some r) (A B : Option Addr) (c d : Nat) (hm : CV w (.slice A l.length c) l) (hm2 : CV w (.slice B m.length d) m) :
   Calls Tryd.prog 21 #[.slice A l.length c, .slice B m.length d] w fun e w' => ∃ A1 c1, e = .returned (.slice A1 r.length c1) ∧ LS w0 w' ((.slice A1 r.length c1, .u r) :: L) :=
 gR hS (zigguratref01_Add.calls k A c l B d m r w hm.C.2.2 hm.C.2.1 hm2.C.2.2 hm2.C.2.1 hf)
theorem lMul (hS : LS w0 w L) (k : Nat) (l m : List Int) (p : Int) (r : List Int) (hf : modp_Mul.f k l m p = some r) (A B : Option Addr) (c d : Nat) (hm : CV w (.slice A l.length c) l) (hm2 : CV w (.slice B m.length d) m) :
   Calls Tryd.prog 11 #[.slice A l.length c, .slice B m.length d, .int .u32 p] w fun e w' => ∃ A1 c1, e = .returned (.slice A1 r.length c1) ∧ LS w0 w' ((.slice A1 r.length c1, .u r) :: L) :=
 gV hS (modp_Mul.calls k A c l B d m p r w hm.C.2.2 hm.C.2.1 hm2.C.2.2 hm2.C.2.1 hf)
theorem lSame (hS : LS w0 w L) (k : Nat) (l m : List Int) (hf : zigguratref14_Same.f k l m = some true) (A B : Option Addr) (c d : Nat) (hm : CV w (.slice A l.length c) l) (hm2 : CV w (.slice B m.length d) m) :
   Calls Tryd.prog 14 #[.slice A l.length c, .slice B m.length d] w fun e w' => e = .returned (.bool true) ∧ LS w0 w' L :=
 cSame hS k l m _ _ hf A B c d hm hm2
theorem lDivMod (hS : LS w0 w L) (k : Nat) (l m : List Int) (p : Int) (q r : List Int) (er : Int) (hf : modp_DivMod.f k l m p = some (q, r, er)) (A B : Option Addr) (c d : Nat) (hm : CV w (.slice A l.length c) l) (hm2 : CV w (.slice B m.length d) m) :
   Calls Tryd.prog 15 #[.slice A l.length c, .slice B m.length d, .int .u32 p] w fun e w' => ∃ A1 c1 A2 c2, e = .returned (.tuple #[.slice A1 q.length c1, .slice A2 r.length c2, .int .i64 er]) ∧ LS w0 w' ((.slice A1 q.length c1, .u q) :: (.slice A2 r.length c2, .u r) :: L) :=
 cDivMod hS k l m p q r er _ _ _ _ rfl rfl hf A B c d hm hm2
theorem lPowMod (hS : LS w0 w L) (k : Nat) (l m f : List Int) (p : Int) (r : List Int) (er : Int) (hf : modp_PowMod.f k l m f p = some (r, er)) (A B D : Option Addr) (c d g : Nat) (hm : CV w (.slice A l.length c) l) (hm2 : CV w (.slice B m.length d) m) (hm3 : CV w (.slice D f.length g) f) :
   Calls Tryd.prog 20 #[.slice A l.length c, .slice B m.length d, .agg #[.slice D f.length g, .int .u32 p]] w fun e w' => ∃ A1 c1, e = .returned (.tuple #[.slice A1 r.length c1, .int .i64 er]) ∧ LS w0 w' ((.slice A1 r.length c1, .u r) :: L) :=
 cPowMod hS k l m f p r er _ _ _ _ rfl hf A B D c d g hm hm2 hm3
end calls
def L6.T3 : Bool × List (List Nat × List Nat) := (true, [([], []), ([0], [0]), ([], []), ([1, 2], [1, 2]), ([], []), ([4], [4]), ([], []), ([5, 6, 3], [5, 6]), ([], []), ([8], [8]), ([9, 7], [9]), ([], []), ([11, 10], [11]), ([3, 12, 0, 1, 2, 3], [3]), ([7, 13, 0, 1, 2, 3, 4, 5, 6, 7, 13], [7]), ([10, 14, 0, 1, 2, 3, 4, 5, 6, 7, 8, 9, 10, 13, 14], [10]), ([12, 15, 0, 1, 2, 3, 4, 5, 6, 7, 8, 9, 10, 11, 12, 13, 14, 15], [12])])
def L6.B3 : List Nat := [0, 1, 0, 7, 0, 16, 0, 127, 0, 256, 1023, 0, 4095, 8191, 16383, 32767, 65535]
theorem L6.tab3 : rtab .any (opsOf Tryd.f6 3) = L6.T3 := by kernel_rfl
theorem L6.bits3 : waitsOk L6.T3.2 L6.B3 = true := by kernel_rfl
theorem pow_walk0 (k : Nat) (a0 : Int) (A1 A2 A3 A4 : Option Addr) (c1 c2 c3 c4 : Nat) (l1 l2 l3 l4 : List Int) (p : Int) (a f ee mm y : List Int) (er : Int) (hof : zigguratref14_Of.f k a0 = some p) (ha : zigguratref14_Made.f k l1 p 10 = some a) (hf : zigguratref14_Made.f k l2 p 10 = some f) (he : zigguratref01_Made.f k l3 3 = some ee) (hm : zigguratref01_Made.f k l4 3 = some mm) (hy : modp_PowMod.f k a ee f p = some (y, er)) (e0 : f = []) (e1 : y = []) (e2 : er = 3) (w : World) (hG : GW w) (h1 : CV w (.slice A1 l1.length c1) l1) (h2 : CV w (.slice A2 l2.length c2) l2) (h3 : CV w (.slice A3 l3.length c3) l3) (h4 : CV w (.slice A4 l4.length c4) l4) : Calls Tryd.prog 6 #[.agg #[.int .u32 a0, .slice A1 l1.length c1, .slice A2 l2.length c2, .slice A3 l3.length c3], .slice A4 l4.length c4] w fun e w' => e = .returned (.bool true) ∧ Below w.heap.size w w' := by
 have HS : Aside0 (LS w w [(.slice A1 l1.length c1, .u l1), (.slice A2 l2.length c2, .u l2), (.slice A3 l3.length c3, .u l3), (.slice A4 l4.length c4, .u l4)]) := ⟨⟨Below.refl _ _, hG, fun x hx => by
   simp only [List.mem_cons, List.not_mem_nil, or_false] at hx
   rcases hx with rfl | rfl | rfl | rfl
   · exact h1
   · exact h2
   · exact h3
   · exact h4⟩⟩
 have hu25 := Tryd.underlying25
 have hu42 := Tryd.underlying42
 subst e1
 subst e2
 have d0 : decide ((f.length : Int) < 2) = true := decide_eq_true (by rw [e0]; decide)
 have z0 : (f = []) = True := eq_true e0
 have z1 : ((f.length : Int) = 0) = True := eq_true (by rw [e0]; rfl)
 clear e0
 clear hG h1 h2 h3 h4
 go_enter Tryd.func6, Tryd.ntmps6
 (try simp only [List.append])
 go_wp2_with (first | ((with_reducible refine gate_dst (N := 2) rfl ?_); refine lit_b #[.int .u32 a0, .slice A1 l1.length c1, .slice A2 l2.length c2, .slice A3 l3.length c3] 25 rF (N := 2) rF HS.out gF ?_; intro g2 w2 hs_; replace HS := am hs_; clear hs_) | ((with_reducible refine gate_callee (f := 7) rfl ?_); refine goesA (some 33) Tryd.func7 #[] ?_; (with_reducible refine (lHead HS.out).mono ?_); rintro e w33 ⟨rfl, hs_⟩; refine ⟨_, rfl, ?_⟩; replace HS := am hs_; clear hs_; (try clear hz0); have hz0 := HS.out.cell 0 _ _ _ rfl 0 _ rfl) | ((with_reducible refine gate_callee (f := 8) rfl ?_); refine goesA (some 36) Tryd.func8 #[.int .u32 a0] ?_; (with_reducible refine (lOf HS.out k _ _ hof).mono ?_); rintro e w36 ⟨rfl, hs_⟩; refine ⟨_, rfl, ?_⟩; (try clear hz0); replace HS := am hs_; clear hs_))
 have HS := am (HS.out.below (below_drew1 (Below.refl _ _)))
 refine start_ (n := 17) (S := fun w' => w'.cell? ⟨g2, 1, none⟩ = some (.slice A1 l1.length c1) ∧ w'.cell? ⟨g2, 2, none⟩ = some (.slice A2 l2.length c2) ∧ w'.cell? ⟨g2, 3, none⟩ = some (.slice A3 l3.length c3)) (ds := []) (bm 17 0) (by kernel_rfl) rfl rfl (⟨HS.out.cell 0 _ _ _ rfl 1 _ rfl, HS.out.cell 0 _ _ _ rfl 2 _ rfl, HS.out.cell 0 _ _ _ rfl 3 _ rfl⟩) (fun hHeld => ?_); refine with_tabW L6.tab3 L6.bits3 (fun HT_ HW_ => ?_)
 generalize w36.drew = wd3 at HS hHeld ⊢
 refine pureB (N := some 37) 0 (bm 17 1) ?_
 refine pureB (N := some 39) 2 (bm 17 5) ?_
 refine pureB (N := some 41) 4 (bm 17 21) ?_
 refine pureB (N := some 43) 6 (bm 17 85) ?_
 refine pureB (N := some 45) 8 (bm 17 341) ?_
 refine pureB (N := some 48) 11 (bm 17 2389) ?_
 refine takeB3 (N := some 38) 1 (bm 17 2391) hHeld ?_
 refine takeB3 (N := some 42) 5 (bm 17 2423) hHeld ?_
 refine takeB3 (N := some 46) 9 (bm 17 2935) hHeld ?_
 refine one_ (i := 3) (N := some 40) (bm 17 2943) rfl rfl (one_of HT_.out (by kernel_rfl)) (by decide) (fun K hK => ?_)
 refine goes_ Tryd.func9 (by kernel_rfl) rfl #[.slice A1 l1.length c1, .int .u32 p, .int .i64 10] (by rfl) rfl rfl aM ?_
 (with_reducible refine (lMade HS.out k _ _ _ _ ha A1 c1 (HS.out.atU 1 _ _ rfl)).mono ?_)
 rintro e w40 ⟨B40, c40, rfl, hs_⟩
 refine ⟨_, rfl, ?_⟩
 replace HS := am hs_
 clear hs_
 refine hK.out _ _ (⟨HS.out.cell 1 _ _ _ rfl 1 _ rfl, HS.out.cell 1 _ _ _ rfl 2 _ rfl, HS.out.cell 1 _ _ _ rfl 3 _ rfl⟩) (fun hHeld => ?_)
 clear hK K
 refine norm_ (a' := ?_) ?_ ?_
 rotate_left
 · show Act.put _ (some 40) _ = _; exact actp
 refine one_ (i := 7) (N := some 44) (bm 17 3071) rfl rfl (one_of HT_.out (by kernel_rfl)) (by decide) (fun K hK => ?_)
 refine goes_ Tryd.func9 (by kernel_rfl) rfl #[.slice A2 l2.length c2, .int .u32 p, .int .i64 10] (by rfl) rfl rfl aM ?_
 (with_reducible refine (lMade HS.out k _ _ _ _ hf A2 c2 (HS.out.atU 3 _ _ rfl)).mono ?_)
 rintro e w44 ⟨B44, c44, rfl, hs_⟩
 refine ⟨_, rfl, ?_⟩
 replace HS := am hs_
 clear hs_
 refine hK.out _ _ (⟨HS.out.cell 2 _ _ _ rfl 1 _ rfl, HS.out.cell 2 _ _ _ rfl 2 _ rfl, HS.out.cell 2 _ _ _ rfl 3 _ rfl⟩) (fun hHeld => ?_)
 clear hK K
 refine norm_ (a' := ?_) ?_ ?_
 rotate_left
 · show Act.put _ (some 44) _ = _; exact actp
 refine one_ (i := 10) (N := some 47) (bm 17 4095) rfl rfl (one_of HT_.out (by kernel_rfl)) (by decide) (fun K hK => ?_)
 refine goes_ Tryd.func19 (by kernel_rfl) rfl #[.slice A3 l3.length c3, .int .i64 3] (by rfl) rfl rfl aM ?_
 (with_reducible refine (lMade19 HS.out k _ _ _ he A3 c3 (HS.out.atU 5 _ _ rfl)).mono ?_)
 rintro e w47 ⟨B47, c47, rfl, hs_⟩
 refine ⟨_, rfl, ?_⟩
 replace HS := am hs_
 clear hs_
 refine hK.out _ _ (⟨HS.out.cell 3 _ _ _ rfl 1 _ rfl, HS.out.cell 3 _ _ _ rfl 2 _ rfl, HS.out.cell 3 _ _ _ rfl 3 _ rfl⟩) (fun hHeld => ?_)
 clear hK K
 refine norm_ (a' := ?_) ?_ ?_
 rotate_left
 · show Act.put _ (some 47) _ = _; exact actp
 refine one_ (i := 12) (N := some 49) (bm 17 8191) rfl rfl (one_of HT_.out (by kernel_rfl)) (by decide) (fun K hK => ?_)
 refine goes_ Tryd.func19 (by kernel_rfl) rfl #[.slice A4 l4.length c4, .int .i64 3] (by rfl) rfl rfl aM ?_
 (with_reducible refine (lMade19 HS.out k _ _ _ hm A4 c4 (HS.out.atU 7 _ _ rfl)).mono ?_)
 rintro e w49 ⟨B49, c49, rfl, hs_⟩
 refine ⟨_, rfl, ?_⟩
 replace HS := am hs_
 clear hs_
 refine hK.out _ _ (⟨HS.out.cell 4 _ _ _ rfl 1 _ rfl, HS.out.cell 4 _ _ _ rfl 2 _ rfl, HS.out.cell 4 _ _ _ rfl 3 _ rfl⟩) (fun hHeld => ?_)
 clear hK K
 refine norm_ (a' := ?_) ?_ ?_
 rotate_left
 · show Act.put _ (some 49) _ = _; exact actp
 refine pureB (N := some 7) 13 (bm 17 16383) ?_
 refine pureB (N := some 8) 14 (bm 17 32767) ?_
 refine pureB (N := some 9) 15 (bm 17 65535) ?_
 refine pureB (N := some 10) 16 (bm 17 131071) ?_
 refine done_ (done_of HT_.out (by kernel_rfl)) ?_
 clear HT_ HW_ hHeld
 go_wp2_with (first | ((with_reducible refine gate_callee (f := 20) rfl ?_); replace HS := am (HS.out.more (below_alloc (Below.refl _ _) _) (v := .pointer (some ⟨w49.heap.size, 0, none⟩)) (r := .b #[.slice B44 f.length c44, .int .u32 p] 42) ⟨_, rfl, alloc_at _ _⟩); refine goesA (some 57) Tryd.func20 #[.slice B40 a.length c40, .slice B47 ee.length c47, .agg #[.slice B44 f.length c44, .int .u32 p]] ?_; (with_reducible refine (lPowMod HS.out k _ _ _ _ _ _ hy B40 B47 B44 c40 c47 c44 (HS.out.atU 4 _ _ rfl) (HS.out.atU 2 _ _ rfl) (HS.out.atU 3 _ _ rfl)).mono ?_); rintro e w57 ⟨B57, c57, rfl, hs_⟩; refine ⟨_, rfl, ?_⟩; replace HS := am hs_; clear hs_; (try clear hM0); have hM0 := HS.out.cell 1 _ _ _ rfl 0 _ rfl; (try clear hM1); have hM1 := HS.out.cell 1 _ _ _ rfl 1 _ rfl))
 go_ret
 exact ⟨eqS, HS.out.b⟩
theorem pow_walk1 (k : Nat) (a0 : Int) (A1 A2 A3 A4 : Option Addr) (c1 c2 c3 c4 : Nat) (l1 l2 l3 l4 : List Int) (p : Int) (a f ee mm y : List Int) (er : Int) (hof : zigguratref14_Of.f k a0 = some p) (ha : zigguratref14_Made.f k l1 p 10 = some a) (hf : zigguratref14_Made.f k l2 p 10 = some f) (he : zigguratref01_Made.f k l3 3 = some ee) (hm : zigguratref01_Made.f k l4 3 = some mm) (hy : modp_PowMod.f k a ee f p = some (y, er)) (e0 : f.length = 1) (e1 : y = []) (e2 : er = 1) (w : World) (hG : GW w) (h1 : CV w (.slice A1 l1.length c1) l1) (h2 : CV w (.slice A2 l2.length c2) l2) (h3 : CV w (.slice A3 l3.length c3) l3) (h4 : CV w (.slice A4 l4.length c4) l4) : Calls Tryd.prog 6 #[.agg #[.int .u32 a0, .slice A1 l1.length c1, .slice A2 l2.length c2, .slice A3 l3.length c3], .slice A4 l4.length c4] w fun e w' => e = .returned (.bool true) ∧ Below w.heap.size w w' := by
 have HS : Aside0 (LS w w [(.slice A1 l1.length c1, .u l1), (.slice A2 l2.length c2, .u l2), (.slice A3 l3.length c3, .u l3), (.slice A4 l4.length c4, .u l4)]) := ⟨⟨Below.refl _ _, hG, fun x hx => by
   simp only [List.mem_cons, List.not_mem_nil, or_false] at hx
   rcases hx with rfl | rfl | rfl | rfl
   · exact h1
   · exact h2
   · exact h3
   · exact h4⟩⟩
 have hu25 := Tryd.underlying25
 have hu42 := Tryd.underlying42
 subst e1
 subst e2
 have d0 : decide ((f.length : Int) < 2) = true := decide_eq_true (by omega)
 have z0 : (f = []) = False := eq_false (fun h_ => by rw [h_] at e0; exact absurd e0 (by decide))
 have z1 : ((f.length : Int) = 0) = False := eq_false (by omega)
 have z2 : ((f.length : Int) = 1) = True := eq_true (by omega)
 clear e0
 clear hG h1 h2 h3 h4
 go_enter Tryd.func6, Tryd.ntmps6
 (try simp only [List.append])
 go_wp2_with (first | ((with_reducible refine gate_dst (N := 2) rfl ?_); refine lit_b #[.int .u32 a0, .slice A1 l1.length c1, .slice A2 l2.length c2, .slice A3 l3.length c3] 25 rF (N := 2) rF HS.out gF ?_; intro g2 w2 hs_; replace HS := am hs_; clear hs_) | ((with_reducible refine gate_callee (f := 7) rfl ?_); refine goesA (some 33) Tryd.func7 #[] ?_; (with_reducible refine (lHead HS.out).mono ?_); rintro e w33 ⟨rfl, hs_⟩; refine ⟨_, rfl, ?_⟩; replace HS := am hs_; clear hs_; (try clear hz0); have hz0 := HS.out.cell 0 _ _ _ rfl 0 _ rfl) | ((with_reducible refine gate_callee (f := 8) rfl ?_); refine goesA (some 36) Tryd.func8 #[.int .u32 a0] ?_; (with_reducible refine (lOf HS.out k _ _ hof).mono ?_); rintro e w36 ⟨rfl, hs_⟩; refine ⟨_, rfl, ?_⟩; (try clear hz0); replace HS := am hs_; clear hs_))
 have HS := am (HS.out.below (below_drew1 (Below.refl _ _)))
 refine start_ (n := 17) (S := fun w' => w'.cell? ⟨g2, 1, none⟩ = some (.slice A1 l1.length c1) ∧ w'.cell? ⟨g2, 2, none⟩ = some (.slice A2 l2.length c2) ∧ w'.cell? ⟨g2, 3, none⟩ = some (.slice A3 l3.length c3)) (ds := []) (bm 17 0) (by kernel_rfl) rfl rfl (⟨HS.out.cell 0 _ _ _ rfl 1 _ rfl, HS.out.cell 0 _ _ _ rfl 2 _ rfl, HS.out.cell 0 _ _ _ rfl 3 _ rfl⟩) (fun hHeld => ?_); refine with_tabW L6.tab3 L6.bits3 (fun HT_ HW_ => ?_)
 generalize w36.drew = wd3 at HS hHeld ⊢
 refine pureB (N := some 37) 0 (bm 17 1) ?_
 refine pureB (N := some 39) 2 (bm 17 5) ?_
 refine pureB (N := some 41) 4 (bm 17 21) ?_
 refine pureB (N := some 43) 6 (bm 17 85) ?_
 refine pureB (N := some 45) 8 (bm 17 341) ?_
 refine pureB (N := some 48) 11 (bm 17 2389) ?_
 refine takeB3 (N := some 38) 1 (bm 17 2391) hHeld ?_
 refine takeB3 (N := some 42) 5 (bm 17 2423) hHeld ?_
 refine takeB3 (N := some 46) 9 (bm 17 2935) hHeld ?_
 refine one_ (i := 3) (N := some 40) (bm 17 2943) rfl rfl (one_of HT_.out (by kernel_rfl)) (by decide) (fun K hK => ?_)
 refine goes_ Tryd.func9 (by kernel_rfl) rfl #[.slice A1 l1.length c1, .int .u32 p, .int .i64 10] (by rfl) rfl rfl aM ?_
 (with_reducible refine (lMade HS.out k _ _ _ _ ha A1 c1 (HS.out.atU 1 _ _ rfl)).mono ?_)
 rintro e w40 ⟨B40, c40, rfl, hs_⟩
 refine ⟨_, rfl, ?_⟩
 replace HS := am hs_
 clear hs_
 refine hK.out _ _ (⟨HS.out.cell 1 _ _ _ rfl 1 _ rfl, HS.out.cell 1 _ _ _ rfl 2 _ rfl, HS.out.cell 1 _ _ _ rfl 3 _ rfl⟩) (fun hHeld => ?_)
 clear hK K
 refine norm_ (a' := ?_) ?_ ?_
 rotate_left
 · show Act.put _ (some 40) _ = _; exact actp
 refine one_ (i := 7) (N := some 44) (bm 17 3071) rfl rfl (one_of HT_.out (by kernel_rfl)) (by decide) (fun K hK => ?_)
 refine goes_ Tryd.func9 (by kernel_rfl) rfl #[.slice A2 l2.length c2, .int .u32 p, .int .i64 10] (by rfl) rfl rfl aM ?_
 (with_reducible refine (lMade HS.out k _ _ _ _ hf A2 c2 (HS.out.atU 3 _ _ rfl)).mono ?_)
 rintro e w44 ⟨B44, c44, rfl, hs_⟩
 refine ⟨_, rfl, ?_⟩
 replace HS := am hs_
 clear hs_
 refine hK.out _ _ (⟨HS.out.cell 2 _ _ _ rfl 1 _ rfl, HS.out.cell 2 _ _ _ rfl 2 _ rfl, HS.out.cell 2 _ _ _ rfl 3 _ rfl⟩) (fun hHeld => ?_)
 clear hK K
 refine norm_ (a' := ?_) ?_ ?_
 rotate_left
 · show Act.put _ (some 44) _ = _; exact actp
 refine one_ (i := 10) (N := some 47) (bm 17 4095) rfl rfl (one_of HT_.out (by kernel_rfl)) (by decide) (fun K hK => ?_)
 refine goes_ Tryd.func19 (by kernel_rfl) rfl #[.slice A3 l3.length c3, .int .i64 3] (by rfl) rfl rfl aM ?_
 (with_reducible refine (lMade19 HS.out k _ _ _ he A3 c3 (HS.out.atU 5 _ _ rfl)).mono ?_)
 rintro e w47 ⟨B47, c47, rfl, hs_⟩
 refine ⟨_, rfl, ?_⟩
 replace HS := am hs_
 clear hs_
 refine hK.out _ _ (⟨HS.out.cell 3 _ _ _ rfl 1 _ rfl, HS.out.cell 3 _ _ _ rfl 2 _ rfl, HS.out.cell 3 _ _ _ rfl 3 _ rfl⟩) (fun hHeld => ?_)
 clear hK K
 refine norm_ (a' := ?_) ?_ ?_
 rotate_left
 · show Act.put _ (some 47) _ = _; exact actp
 refine one_ (i := 12) (N := some 49) (bm 17 8191) rfl rfl (one_of HT_.out (by kernel_rfl)) (by decide) (fun K hK => ?_)
 refine goes_ Tryd.func19 (by kernel_rfl) rfl #[.slice A4 l4.length c4, .int .i64 3] (by rfl) rfl rfl aM ?_
 (with_reducible refine (lMade19 HS.out k _ _ _ hm A4 c4 (HS.out.atU 7 _ _ rfl)).mono ?_)
 rintro e w49 ⟨B49, c49, rfl, hs_⟩
 refine ⟨_, rfl, ?_⟩
 replace HS := am hs_
 clear hs_
 refine hK.out _ _ (⟨HS.out.cell 4 _ _ _ rfl 1 _ rfl, HS.out.cell 4 _ _ _ rfl 2 _ rfl, HS.out.cell 4 _ _ _ rfl 3 _ rfl⟩) (fun hHeld => ?_)
 clear hK K
 refine norm_ (a' := ?_) ?_ ?_
 rotate_left
 · show Act.put _ (some 49) _ = _; exact actp
 refine pureB (N := some 7) 13 (bm 17 16383) ?_
 refine pureB (N := some 8) 14 (bm 17 32767) ?_
 refine pureB (N := some 9) 15 (bm 17 65535) ?_
 refine pureB (N := some 10) 16 (bm 17 131071) ?_
 refine done_ (done_of HT_.out (by kernel_rfl)) ?_
 clear HT_ HW_ hHeld
 go_wp2_with (first | ((with_reducible refine gate_callee (f := 20) rfl ?_); replace HS := am (HS.out.more (below_alloc (Below.refl _ _) _) (v := .pointer (some ⟨w49.heap.size, 0, none⟩)) (r := .b #[.slice B44 f.length c44, .int .u32 p] 42) ⟨_, rfl, alloc_at _ _⟩); refine goesA (some 57) Tryd.func20 #[.slice B40 a.length c40, .slice B47 ee.length c47, .agg #[.slice B44 f.length c44, .int .u32 p]] ?_; (with_reducible refine (lPowMod HS.out k _ _ _ _ _ _ hy B40 B47 B44 c40 c47 c44 (HS.out.atU 4 _ _ rfl) (HS.out.atU 2 _ _ rfl) (HS.out.atU 3 _ _ rfl)).mono ?_); rintro e w57 ⟨B57, c57, rfl, hs_⟩; refine ⟨_, rfl, ?_⟩; replace HS := am hs_; clear hs_; (try clear hM0); have hM0 := HS.out.cell 1 _ _ _ rfl 0 _ rfl; (try clear hM1); have hM1 := HS.out.cell 1 _ _ _ rfl 1 _ rfl))
 go_ret
 exact ⟨eqS, HS.out.b⟩
def L6.T9 : Bool × List (List Nat × List Nat) := (true, [([], []), ([], []), ([], []), ([1, 2], [1, 2]), ([], []), ([0, 3, 4, 3], [0, 3, 4]), ([5], [5]), ([6], [6]), ([6], [6]), ([7, 5, 0, 1, 2, 3, 4, 5, 6, 7], [7]), ([8, 9, 0, 1, 2, 3, 4, 5, 6, 7, 8, 9], [8])])
def L6.B9 : List Nat := [0, 0, 0, 6, 0, 31, 63, 127, 127, 255, 1023]
theorem L6.tab9 : rtab .any (opsOf Tryd.f6 9) = L6.T9 := by kernel_rfl
theorem L6.bits9 : waitsOk L6.T9.2 L6.B9 = true := by kernel_rfl
def L6.T12 : Bool × List (List Nat × List Nat) := (true, [([], []), ([], []), ([], []), ([0, 1, 2], [0, 1, 2]), ([], []), ([], []), ([3, 4, 5, 3], [3, 4, 5]), ([6], [6]), ([7], [7]), ([7], [7]), ([8, 6, 0, 1, 2, 3, 4, 5, 6, 7, 8], [8]), ([9, 10, 0, 1, 2, 3, 4, 5, 6, 7, 8, 9, 10], [9])])
def L6.B12 : List Nat := [0, 0, 0, 7, 0, 0, 63, 127, 255, 255, 511, 2047]
theorem L6.tab12 : rtab .any (opsOf Tryd.f6 12) = L6.T12 := by kernel_rfl
theorem L6.bits12 : waitsOk L6.T12.2 L6.B12 = true := by kernel_rfl
theorem pow_walk2 (k : Nat) (a0 : Int) (A1 A2 A3 A4 : Option Addr) (c1 c2 c3 c4 : Nat) (l1 l2 l3 l4 : List Int) (p : Int) (a f ee mm y : List Int) (er : Int) (hof : zigguratref14_Of.f k a0 = some p) (ha : zigguratref14_Made.f k l1 p 10 = some a) (hf : zigguratref14_Made.f k l2 p 10 = some f) (he : zigguratref01_Made.f k l3 3 = some ee) (hm : zigguratref01_Made.f k l4 3 = some mm) (hy : modp_PowMod.f k a ee f p = some (y, er)) (e0 : 2 ≤ f.length) (e1 : f.length < 1000) (e2 : er = 0) (z ss bo no on aa sq yz yy q1 r1 q2 r2 q3 r3 : List Int) (er1 er2 er3 : Int) (hz : modp_PowMod.f k a mm f p = some (z, 0)) (hss : zigguratref01_Add.f k ee mm = some ss) (hbo : modp_PowMod.f k a ss f p = some (bo, 0)) (hno : modp_PowMod.f k a [] f p = some (no, 0)) (hone : modp_PowMod.f k a [1] f p = some (on, 0)) (haa : modp_Mul.f k a a p = some aa) (hsq : modp_PowMod.f k aa ee f p = some (sq, 0)) (hyz : modp_Mul.f k y z p = some yz) (hd1 : modp_DivMod.f k yz f p = some (q1, r1, 0)) (hd2 : modp_DivMod.f k a f p = some (q2, r2, 0)) (hyy : modp_Mul.f k y y p = some yy) (hd3 : modp_DivMod.f k yy f p = some (q3, r3, 0)) (hs1 : zigguratref14_Same.f k r1 bo = some true) (hs2 : zigguratref14_Same.f k no [1] = some true) (hs3 : zigguratref14_Same.f k on r2 = some true) (hs4 : zigguratref14_Same.f k sq r3 = some true) (w : World) (hG : GW w) (h1 : CV w (.slice A1 l1.length c1) l1) (h2 : CV w (.slice A2 l2.length c2) l2) (h3 : CV w (.slice A3 l3.length c3) l3) (h4 : CV w (.slice A4 l4.length c4) l4) : Calls Tryd.prog 6 #[.agg #[.int .u32 a0, .slice A1 l1.length c1, .slice A2 l2.length c2, .slice A3 l3.length c3], .slice A4 l4.length c4] w fun e w' => e = .returned (.bool true) ∧ Below w.heap.size w w' := by
 have HS : Aside0 (LS w w [(.slice A1 l1.length c1, .u l1), (.slice A2 l2.length c2, .u l2), (.slice A3 l3.length c3, .u l3), (.slice A4 l4.length c4, .u l4)]) := ⟨⟨Below.refl _ _, hG, fun x hx => by
   simp only [List.mem_cons, List.not_mem_nil, or_false] at hx
   rcases hx with rfl | rfl | rfl | rfl
   · exact h1
   · exact h2
   · exact h3
   · exact h4⟩⟩
 have hu25 := Tryd.underlying25
 have hu42 := Tryd.underlying42
 subst e2
 have d0 : decide ((f.length : Int) < 2) = false := decide_eq_false (by omega)
 clear e0 e1
 clear hG h1 h2 h3 h4
 go_enter Tryd.func6, Tryd.ntmps6
 (try simp only [List.append])
 go_wp2_with (first | ((with_reducible refine gate_dst (N := 2) rfl ?_); refine lit_b #[.int .u32 a0, .slice A1 l1.length c1, .slice A2 l2.length c2, .slice A3 l3.length c3] 25 rF (N := 2) rF HS.out gF ?_; intro g2 w2 hs_; replace HS := am hs_; clear hs_) | ((with_reducible refine gate_callee (f := 7) rfl ?_); refine goesA (some 33) Tryd.func7 #[] ?_; (with_reducible refine (lHead HS.out).mono ?_); rintro e w33 ⟨rfl, hs_⟩; refine ⟨_, rfl, ?_⟩; replace HS := am hs_; clear hs_; (try clear hz0); have hz0 := HS.out.cell 0 _ _ _ rfl 0 _ rfl) | ((with_reducible refine gate_callee (f := 8) rfl ?_); refine goesA (some 36) Tryd.func8 #[.int .u32 a0] ?_; (with_reducible refine (lOf HS.out k _ _ hof).mono ?_); rintro e w36 ⟨rfl, hs_⟩; refine ⟨_, rfl, ?_⟩; (try clear hz0); replace HS := am hs_; clear hs_))
 have HS := am (HS.out.below (below_drew1 (Below.refl _ _)))
 refine start_ (n := 17) (S := fun w' => w'.cell? ⟨g2, 1, none⟩ = some (.slice A1 l1.length c1) ∧ w'.cell? ⟨g2, 2, none⟩ = some (.slice A2 l2.length c2) ∧ w'.cell? ⟨g2, 3, none⟩ = some (.slice A3 l3.length c3)) (ds := []) (bm 17 0) (by kernel_rfl) rfl rfl (⟨HS.out.cell 0 _ _ _ rfl 1 _ rfl, HS.out.cell 0 _ _ _ rfl 2 _ rfl, HS.out.cell 0 _ _ _ rfl 3 _ rfl⟩) (fun hHeld => ?_); refine with_tabW L6.tab3 L6.bits3 (fun HT_ HW_ => ?_)
 generalize w36.drew = wd3 at HS hHeld ⊢
 refine pureB (N := some 37) 0 (bm 17 1) ?_
 refine pureB (N := some 39) 2 (bm 17 5) ?_
 refine pureB (N := some 41) 4 (bm 17 21) ?_
 refine pureB (N := some 43) 6 (bm 17 85) ?_
 refine pureB (N := some 45) 8 (bm 17 341) ?_
 refine pureB (N := some 48) 11 (bm 17 2389) ?_
 refine takeB3 (N := some 38) 1 (bm 17 2391) hHeld ?_
 refine takeB3 (N := some 42) 5 (bm 17 2423) hHeld ?_
 refine takeB3 (N := some 46) 9 (bm 17 2935) hHeld ?_
 refine one_ (i := 3) (N := some 40) (bm 17 2943) rfl rfl (one_of HT_.out (by kernel_rfl)) (by decide) (fun K hK => ?_)
 refine goes_ Tryd.func9 (by kernel_rfl) rfl #[.slice A1 l1.length c1, .int .u32 p, .int .i64 10] (by rfl) rfl rfl aM ?_
 (with_reducible refine (lMade HS.out k _ _ _ _ ha A1 c1 (HS.out.atU 1 _ _ rfl)).mono ?_)
 rintro e w40 ⟨B40, c40, rfl, hs_⟩
 refine ⟨_, rfl, ?_⟩
 replace HS := am hs_
 clear hs_
 refine hK.out _ _ (⟨HS.out.cell 1 _ _ _ rfl 1 _ rfl, HS.out.cell 1 _ _ _ rfl 2 _ rfl, HS.out.cell 1 _ _ _ rfl 3 _ rfl⟩) (fun hHeld => ?_)
 clear hK K
 refine norm_ (a' := ?_) ?_ ?_
 rotate_left
 · show Act.put _ (some 40) _ = _; exact actp
 refine one_ (i := 7) (N := some 44) (bm 17 3071) rfl rfl (one_of HT_.out (by kernel_rfl)) (by decide) (fun K hK => ?_)
 refine goes_ Tryd.func9 (by kernel_rfl) rfl #[.slice A2 l2.length c2, .int .u32 p, .int .i64 10] (by rfl) rfl rfl aM ?_
 (with_reducible refine (lMade HS.out k _ _ _ _ hf A2 c2 (HS.out.atU 3 _ _ rfl)).mono ?_)
 rintro e w44 ⟨B44, c44, rfl, hs_⟩
 refine ⟨_, rfl, ?_⟩
 replace HS := am hs_
 clear hs_
 refine hK.out _ _ (⟨HS.out.cell 2 _ _ _ rfl 1 _ rfl, HS.out.cell 2 _ _ _ rfl 2 _ rfl, HS.out.cell 2 _ _ _ rfl 3 _ rfl⟩) (fun hHeld => ?_)
 clear hK K
 refine norm_ (a' := ?_) ?_ ?_
 rotate_left
 · show Act.put _ (some 44) _ = _; exact actp
 refine one_ (i := 10) (N := some 47) (bm 17 4095) rfl rfl (one_of HT_.out (by kernel_rfl)) (by decide) (fun K hK => ?_)
 refine goes_ Tryd.func19 (by kernel_rfl) rfl #[.slice A3 l3.length c3, .int .i64 3] (by rfl) rfl rfl aM ?_
 (with_reducible refine (lMade19 HS.out k _ _ _ he A3 c3 (HS.out.atU 5 _ _ rfl)).mono ?_)
 rintro e w47 ⟨B47, c47, rfl, hs_⟩
 refine ⟨_, rfl, ?_⟩
 replace HS := am hs_
 clear hs_
 refine hK.out _ _ (⟨HS.out.cell 3 _ _ _ rfl 1 _ rfl, HS.out.cell 3 _ _ _ rfl 2 _ rfl, HS.out.cell 3 _ _ _ rfl 3 _ rfl⟩) (fun hHeld => ?_)
 clear hK K
 refine norm_ (a' := ?_) ?_ ?_
 rotate_left
 · show Act.put _ (some 47) _ = _; exact actp
 refine one_ (i := 12) (N := some 49) (bm 17 8191) rfl rfl (one_of HT_.out (by kernel_rfl)) (by decide) (fun K hK => ?_)
 refine goes_ Tryd.func19 (by kernel_rfl) rfl #[.slice A4 l4.length c4, .int .i64 3] (by rfl) rfl rfl aM ?_
 (with_reducible refine (lMade19 HS.out k _ _ _ hm A4 c4 (HS.out.atU 7 _ _ rfl)).mono ?_)
 rintro e w49 ⟨B49, c49, rfl, hs_⟩
 refine ⟨_, rfl, ?_⟩
 replace HS := am hs_
 clear hs_
 refine hK.out _ _ (⟨HS.out.cell 4 _ _ _ rfl 1 _ rfl, HS.out.cell 4 _ _ _ rfl 2 _ rfl, HS.out.cell 4 _ _ _ rfl 3 _ rfl⟩) (fun hHeld => ?_)
 clear hK K
 refine norm_ (a' := ?_) ?_ ?_
 rotate_left
 · show Act.put _ (some 49) _ = _; exact actp
 refine pureB (N := some 7) 13 (bm 17 16383) ?_
 refine pureB (N := some 8) 14 (bm 17 32767) ?_
 refine pureB (N := some 9) 15 (bm 17 65535) ?_
 refine pureB (N := some 10) 16 (bm 17 131071) ?_
 refine done_ (done_of HT_.out (by kernel_rfl)) ?_
 clear HT_ HW_ hHeld
 go_wp2_with (first | ((with_reducible refine gate_callee (f := 20) rfl ?_); replace HS := am (HS.out.more (below_alloc (Below.refl _ _) _) (v := .pointer (some ⟨w49.heap.size, 0, none⟩)) (r := .b #[.slice B44 f.length c44, .int .u32 p] 42) ⟨_, rfl, alloc_at _ _⟩); refine goesA (some 57) Tryd.func20 #[.slice B40 a.length c40, .slice B47 ee.length c47, .agg #[.slice B44 f.length c44, .int .u32 p]] ?_; (with_reducible refine (lPowMod HS.out k _ _ _ _ _ _ hy B40 B47 B44 c40 c47 c44 (HS.out.atU 4 _ _ rfl) (HS.out.atU 2 _ _ rfl) (HS.out.atU 3 _ _ rfl)).mono ?_); rintro e w57 ⟨B57, c57, rfl, hs_⟩; refine ⟨_, rfl, ?_⟩; replace HS := am hs_; clear hs_; (try clear hM0); have hM0 := HS.out.cell 1 _ _ _ rfl 0 _ rfl; (try clear hM1); have hM1 := HS.out.cell 1 _ _ _ rfl 1 _ rfl) | ((with_reducible refine gate_callee (f := 20) rfl ?_); refine goesA (some 91) Tryd.func20 #[.slice B40 a.length c40, .slice B49 mm.length c49, .agg #[.slice B44 f.length c44, .int .u32 p]] ?_; (with_reducible refine (lPowMod HS.out k _ _ _ _ _ _ hz B40 B49 B44 c40 c49 c44 (HS.out.atU 5 _ _ rfl) (HS.out.atU 2 _ _ rfl) (HS.out.atU 4 _ _ rfl)).mono ?_); rintro e w91 ⟨B91, c91, rfl, hs_⟩; refine ⟨_, rfl, ?_⟩; replace HS := am hs_; clear hs_; (try clear hM0); have hM0 := HS.out.cell 2 _ _ _ rfl 0 _ rfl; (try clear hM1); have hM1 := HS.out.cell 2 _ _ _ rfl 1 _ rfl))
 have HS := am (HS.out.below (below_drew1 (Below.refl _ _)))
 refine start_ (n := 11) (S := fun w' => w'.cell? ⟨w49.heap.size, 0, none⟩ = some (.slice B44 f.length c44) ∧ w'.cell? ⟨w49.heap.size, 1, none⟩ = some (.int .u32 p)) (ds := []) (bm 11 0) (by kernel_rfl) rfl rfl (⟨HS.out.cell 2 _ _ _ rfl 0 _ rfl, HS.out.cell 2 _ _ _ rfl 1 _ rfl⟩) (fun hHeld => ?_); refine with_tabW L6.tab9 L6.bits9 (fun HT_ HW_ => ?_)
 generalize w91.drew = wd9 at HS hHeld ⊢
 refine pureB (N := some 95) 0 (bm 11 1) ?_
 refine pureB (N := some 96) 1 (bm 11 3) ?_
 refine pureB (N := some 97) 2 (bm 11 7) ?_
 refine takeB2 (N := some 99) 4 (bm 11 23) hHeld ?_
 refine one_ (i := 3) (N := some 98) (bm 11 31) rfl rfl (one_of HT_.out (by kernel_rfl)) (by decide) (fun K hK => ?_)
 refine goes_ Tryd.func21 (by kernel_rfl) rfl #[.slice B47 ee.length c47, .slice B49 mm.length c49] (by rfl) rfl rfl aM ?_
 (with_reducible refine (lAdd21 HS.out k _ _ _ hss B47 B49 c47 c49 (HS.out.atU 4 _ _ rfl) (HS.out.atU 3 _ _ rfl)).mono ?_)
 rintro e w98 ⟨B98, c98, rfl, hs_⟩
 refine ⟨_, rfl, ?_⟩
 replace HS := am hs_
 clear hs_
 refine hK.out _ _ (⟨HS.out.cell 3 _ _ _ rfl 0 _ rfl, HS.out.cell 3 _ _ _ rfl 1 _ rfl⟩) (fun hHeld => ?_)
 clear hK K
 refine norm_ (a' := ?_) ?_ ?_
 rotate_left
 · show Act.put _ (some 98) _ = _; exact actp
 refine one_ (i := 5) (N := some 100) (bm 11 63) rfl rfl (one_of HT_.out (by kernel_rfl)) (by decide) (fun K hK => ?_)
 refine goes_ Tryd.func20 (by kernel_rfl) rfl #[.slice B40 a.length c40, .slice B98 ss.length c98, .agg #[.slice B44 f.length c44, .int .u32 p]] (by rfl) rfl rfl aM ?_
 (with_reducible refine (lPowMod HS.out k _ _ _ _ _ _ hbo B40 B98 B44 c40 c98 c44 (HS.out.atU 7 _ _ rfl) (HS.out.atU 0 _ _ rfl) (HS.out.atU 6 _ _ rfl)).mono ?_)
 rintro e w100 ⟨B100, c100, rfl, hs_⟩
 refine ⟨_, rfl, ?_⟩
 replace HS := am hs_
 clear hs_
 refine hK.out _ _ (⟨HS.out.cell 4 _ _ _ rfl 0 _ rfl, HS.out.cell 4 _ _ _ rfl 1 _ rfl⟩) (fun hHeld => ?_)
 clear hK K
 refine norm_ (a' := ?_) ?_ ?_
 rotate_left
 · show Act.put _ (some 100) _ = _; exact actp
 refine pureB (N := some 94) 6 (bm 11 127) ?_
 refine pureB (N := some 101) 7 (bm 11 255) ?_
 refine pureB (N := some 102) 8 (bm 11 511) ?_
 refine pureB (N := some 16) 9 (bm 11 1023) ?_
 refine pureB (N := some 17) 10 (bm 11 2047) ?_
 refine done_ (done_of HT_.out (by kernel_rfl)) ?_
 clear HT_ HW_ hHeld
 clear hM0 hM1
 have hM0 := HS.out.cell 4 _ _ _ rfl 0 _ rfl
 have hM1 := HS.out.cell 4 _ _ _ rfl 1 _ rfl
 go_wp2_with (first | ((with_reducible refine gate_callee (f := 20) rfl ?_); refine goesA (some 106) Tryd.func20 #[.slice B40 a.length c40, .slice none ([] : List Int).length 0, .agg #[.slice B44 f.length c44, .int .u32 p]] ?_; (with_reducible refine (lPowMod HS.out k _ _ _ _ _ _ hno B40 none B44 c40 0 c44 (HS.out.atU 8 _ _ rfl) (CV_nil _) (HS.out.atU 7 _ _ rfl)).mono ?_); rintro e w106 ⟨B106, c106, rfl, hs_⟩; refine ⟨_, rfl, ?_⟩; replace HS := am hs_; clear hs_; (try clear hM0); have hM0 := HS.out.cell 5 _ _ _ rfl 0 _ rfl; (try clear hM1); have hM1 := HS.out.cell 5 _ _ _ rfl 1 _ rfl) | ((with_reducible refine gate_dst (N := 111) rfl ?_); (try (refine gate_guard (by rfl) ?_; dsimp only)); refine lit_u [1] 1 rfl (by decide) rF (N := 111) rF HS.out gF ?_; intro A111 w111 hs_; replace HS := am hs_; clear hs_; (try clear hM0); (try clear hM1); have hM0 := HS.out.cell 6 _ _ _ rfl 0 _ rfl; have hM1 := HS.out.cell 6 _ _ _ rfl 1 _ rfl) | ((with_reducible refine gate_callee (f := 20) rfl ?_); refine goesA (some 113) Tryd.func20 #[.slice B40 a.length c40, .slice A111 ([1] : List Int).length 1, .agg #[.slice B44 f.length c44, .int .u32 p]] ?_; (with_reducible refine (lPowMod HS.out k _ _ _ _ _ _ hone B40 A111 B44 c40 1 c44 (HS.out.atU 10 _ _ rfl) (HS.out.atU 0 _ _ rfl) (HS.out.atU 9 _ _ rfl)).mono ?_); rintro e w113 ⟨B113, c113, rfl, hs_⟩; refine ⟨_, rfl, ?_⟩; replace HS := am hs_; clear hs_; (try clear hM0); have hM0 := HS.out.cell 7 _ _ _ rfl 0 _ rfl; (try clear hM1); have hM1 := HS.out.cell 7 _ _ _ rfl 1 _ rfl))
 have HS := am (HS.out.below (below_drew1 (Below.refl _ _)))
 refine start_ (n := 12) (S := fun w' => w'.cell? ⟨w49.heap.size, 0, none⟩ = some (.slice B44 f.length c44) ∧ w'.cell? ⟨w49.heap.size, 1, none⟩ = some (.int .u32 p)) (ds := []) (bm 12 0) (by kernel_rfl) rfl rfl (⟨HS.out.cell 7 _ _ _ rfl 0 _ rfl, HS.out.cell 7 _ _ _ rfl 1 _ rfl⟩) (fun hHeld => ?_); refine with_tabW L6.tab12 L6.bits12 (fun HT_ HW_ => ?_)
 generalize w113.drew = wd12 at HS hHeld ⊢
 refine pureB (N := some 117) 0 (bm 12 1) ?_
 refine pureB (N := some 118) 1 (bm 12 3) ?_
 refine pureB (N := some 119) 2 (bm 12 7) ?_
 refine pureB (N := some 121) 4 (bm 12 23) ?_
 refine takeB2 (N := some 122) 5 (bm 12 55) hHeld ?_
 refine one_ (i := 3) (N := some 120) (bm 12 63) rfl rfl (one_of HT_.out (by kernel_rfl)) (by decide) (fun K hK => ?_)
 refine goes_ Tryd.func11 (by kernel_rfl) rfl #[.slice B40 a.length c40, .slice B40 a.length c40, .int .u32 p] (by rfl) rfl rfl aM ?_
 (with_reducible refine (lMul HS.out k _ _ _ _ haa B40 B40 c40 c40 (HS.out.atU 11 _ _ rfl) (HS.out.atU 11 _ _ rfl)).mono ?_)
 rintro e w120 ⟨B120, c120, rfl, hs_⟩
 refine ⟨_, rfl, ?_⟩
 replace HS := am hs_
 clear hs_
 refine hK.out _ _ (⟨HS.out.cell 8 _ _ _ rfl 0 _ rfl, HS.out.cell 8 _ _ _ rfl 1 _ rfl⟩) (fun hHeld => ?_)
 clear hK K
 refine norm_ (a' := ?_) ?_ ?_
 rotate_left
 · show Act.put _ (some 120) _ = _; exact actp
 refine one_ (i := 6) (N := some 123) (bm 12 127) rfl rfl (one_of HT_.out (by kernel_rfl)) (by decide) (fun K hK => ?_)
 refine goes_ Tryd.func20 (by kernel_rfl) rfl #[.slice B120 aa.length c120, .slice B47 ee.length c47, .agg #[.slice B44 f.length c44, .int .u32 p]] (by rfl) rfl rfl aM ?_
 (with_reducible refine (lPowMod HS.out k _ _ _ _ _ _ hsq B120 B47 B44 c120 c47 c44 (HS.out.atU 0 _ _ rfl) (HS.out.atU 10 _ _ rfl) (HS.out.atU 11 _ _ rfl)).mono ?_)
 rintro e w123 ⟨B123, c123, rfl, hs_⟩
 refine ⟨_, rfl, ?_⟩
 replace HS := am hs_
 clear hs_
 refine hK.out _ _ (⟨HS.out.cell 9 _ _ _ rfl 0 _ rfl, HS.out.cell 9 _ _ _ rfl 1 _ rfl⟩) (fun hHeld => ?_)
 clear hK K
 refine norm_ (a' := ?_) ?_ ?_
 rotate_left
 · show Act.put _ (some 123) _ = _; exact actp
 refine pureB (N := some 116) 7 (bm 12 255) ?_
 refine pureB (N := some 124) 8 (bm 12 511) ?_
 refine pureB (N := some 125) 9 (bm 12 1023) ?_
 refine pureB (N := some 22) 10 (bm 12 2047) ?_
 refine pureB (N := some 23) 11 (bm 12 4095) ?_
 refine done_ (done_of HT_.out (by kernel_rfl)) ?_
 clear HT_ HW_ hHeld
 go_wp2_with (first | ((with_reducible refine gate_callee (f := 11) rfl ?_); refine goesA (some 130) Tryd.func11 #[.slice B57 y.length c57, .slice B91 z.length c91, .int .u32 p] ?_; (with_reducible refine (lMul HS.out k _ _ _ _ hyz B57 B91 c57 c91 (HS.out.atU 8 _ _ rfl) (HS.out.atU 7 _ _ rfl)).mono ?_); rintro e w130 ⟨B130, c130, rfl, hs_⟩; refine ⟨_, rfl, ?_⟩; replace HS := am hs_; clear hs_) | ((with_reducible refine gate_callee (f := 15) rfl ?_); refine goesA (some 133) Tryd.func15 #[.slice B130 yz.length c130, .slice B44 f.length c44, .int .u32 p] ?_; (with_reducible refine (lDivMod HS.out k _ _ _ _ _ _ hd1 B130 B44 c130 c44 (HS.out.atU 0 _ _ rfl) (HS.out.atU 13 _ _ rfl)).mono ?_); rintro e w133 ⟨B133, c133, D133, d133, rfl, hs_⟩; refine ⟨_, rfl, ?_⟩; replace HS := am hs_; clear hs_) | ((with_reducible refine gate_callee (f := 15) rfl ?_); refine goesA (some 141) Tryd.func15 #[.slice B40 a.length c40, .slice B44 f.length c44, .int .u32 p] ?_; (with_reducible refine (lDivMod HS.out k _ _ _ _ _ _ hd2 B40 B44 c40 c44 (HS.out.atU 16 _ _ rfl) (HS.out.atU 15 _ _ rfl)).mono ?_); rintro e w141 ⟨B141, c141, D141, d141, rfl, hs_⟩; refine ⟨_, rfl, ?_⟩; replace HS := am hs_; clear hs_) | ((with_reducible refine gate_callee (f := 11) rfl ?_); refine goesA (some 149) Tryd.func11 #[.slice B57 y.length c57, .slice B57 y.length c57, .int .u32 p] ?_; (with_reducible refine (lMul HS.out k _ _ _ _ hyy B57 B57 c57 c57 (HS.out.atU 13 _ _ rfl) (HS.out.atU 13 _ _ rfl)).mono ?_); rintro e w149 ⟨B149, c149, rfl, hs_⟩; refine ⟨_, rfl, ?_⟩; replace HS := am hs_; clear hs_) | ((with_reducible refine gate_callee (f := 15) rfl ?_); refine goesA (some 152) Tryd.func15 #[.slice B149 yy.length c149, .slice B44 f.length c44, .int .u32 p] ?_; (with_reducible refine (lDivMod HS.out k _ _ _ _ _ _ hd3 B149 B44 c149 c44 (HS.out.atU 0 _ _ rfl) (HS.out.atU 18 _ _ rfl)).mono ?_); rintro e w152 ⟨B152, c152, D152, d152, rfl, hs_⟩; refine ⟨_, rfl, ?_⟩; replace HS := am hs_; clear hs_) | (go_at_call 14; (with_reducible refine (lSame HS.out k _ _ hs1 D133 B100 d133 c100 (HS.out.atU 6 _ _ rfl) (HS.out.atU 13 _ _ rfl)).mono ?_); rintro e w161 ⟨rfl, hs_⟩; replace HS := am hs_; clear hs_) | ((with_reducible refine gate_dst (N := 165) rfl ?_); (try (refine gate_guard (by rfl) ?_; dsimp only)); refine lit_u [1] 1 rfl (by decide) rF (N := 165) rF HS.out gF ?_; intro A165 w165 hs_; replace HS := am hs_; clear hs_) | (go_at_call 14; (with_reducible refine (cSame HS.out k _ _ no.length 1 hs2 B106 A165 c106 1 (HS.out.atU 13 _ _ rfl) (HS.out.atU 0 _ _ rfl)).mono ?_); rintro e w166 ⟨rfl, hs_⟩; replace HS := am hs_; clear hs_) | (go_at_call 14; (with_reducible refine (lSame HS.out k _ _ hs3 B113 D141 c113 d141 (HS.out.atU 11 _ _ rfl) (HS.out.atU 5 _ _ rfl)).mono ?_); rintro e w171 ⟨rfl, hs_⟩; replace HS := am hs_; clear hs_) | (go_at_call 14; (with_reducible refine (lSame HS.out k _ _ hs4 B123 D152 c123 d152 (HS.out.atU 9 _ _ rfl) (HS.out.atU 2 _ _ rfl)).mono ?_); rintro e w176 ⟨rfl, hs_⟩; replace HS := am hs_; clear hs_))
 go_ret
 exact ⟨eqS, HS.out.b⟩
end Go.Proofs.YtofbpjpdahcghaaDoor.Q
namespace Go.Proofs.YtofbpjpdahcghaaDoor.Q
open Go.RowKit Go.Proofs.YtofbpjpdahcghaaDoorW.PrintWords
set_option linter.unusedVariables false
theorem bits_of {E : Nat} (h : (toL E).length ≤ 10) : BitsOf (toL E) E (bl E) := by
 have hb : bl E ≤ 32 * 10 := by
   have h2 := toL_length_le.1 h
   rw [pow32] at h2
   exact bl_le.2 h2
 exact ⟨bits_f (by omega), by omega, fun i hi => bit_f (by omega), Nat.div_eq_of_lt (bl_le.1 (Nat.le_refl _))⟩
theorem divrest_is (p : Nat) (hpp : isPrime p) (hp2 : p < 65536) (a f : List Int) (ha : RP p a) (hf : RP p f) (la : a.length < 1000) (lf : f.length < 1000) (l0 : 0 < f.length) :
   ∃ q r, RP p r ∧ r.length < f.length ∧ Cf p f (valL r) (valL a) ∧ ∀ k, 2000000 ≤ k → modp_DivMod.f k a f p = some (q, r, 0) := by
 obtain ⟨q, r, rq, rr, lr, lq, hc, hk⟩ := divmod_is p hpp hp2 a f ha hf la lf l0
 exact ⟨q, r, rr, lr, Cf.symm ⟨valL q, PF.of q, hc.trans (Cg.of_eq _ (fun x => by grind))⟩, hk⟩
theorem pow_mul_i (x y : Int) : ∀ n : Nat, (x * y) ^ n = x ^ n * y ^ n
 | 0 => by simp
 | n + 1 => by rw [Int.pow_succ, Int.pow_succ, Int.pow_succ, pow_mul_i x y n]; grind
theorem pow_true (a0 : Int) (A1 A2 A3 A4 : Option Addr) (c1 c2 c3 c4 : Nat) (l1 l2 l3 l4 : List Int) (h0 : 0 ≤ a0) (h1 : ∀ x ∈ l1, 0 ≤ x) (h2 : ∀ x ∈ l2, 0 ≤ x) (h3 : Limbs l3) (h4 : Limbs l4)
   (w : World) (hG : GW w) (r1 : CV w (.slice A1 l1.length c1) l1) (r2 : CV w (.slice A2 l2.length c2) l2) (r3 : CV w (.slice A3 l3.length c3) l3) (r4 : CV w (.slice A4 l4.length c4) l4) :
   Calls Tryd.prog 6 #[.agg #[.int .u32 a0, .slice A1 l1.length c1, .slice A2 l2.length c2, .slice A3 l3.length c3], .slice A4 l4.length c4] w fun e w' => e = .returned (.bool true) ∧ Below w.heap.size w w' := by
 obtain ⟨K, hK⟩ : ∃ K : Nat, 3000000 ≤ K := ⟨_, Nat.le_refl _⟩
 obtain ⟨p, hof, hpp, hp2⟩ := refof_is a0 h0 K (by omega)
 have hp0 : (0 : Int) < p := by have := hpp.1; omega
 have hpi : (p : Int) < 65536 := by omega
 obtain ⟨a, ma, ba, oa, la⟩ := made_is l1 p 10 hp0 hpi h1 (by omega) K (by omega)
 obtain ⟨f, mf, bf, of, lf⟩ := made_is l2 p 10 hp0 hpi h2 (by omega) K (by omega)
 have ra : RP p a := ⟨ba, oa⟩
 have rf : RP p f := ⟨bf, of⟩
 have he := made_f h3 (m := 3) (k := K) (by omega) (by omega)
 have hm := made_f h4 (m := 3) (k := K) (by omega) (by omega)
 have le := made_len h3 3
 have lm := made_len h4 3
 generalize valN (l3.take 3) = E at he le
 generalize valN (l4.take 3) = M at hm lm
 by_cases f0 : f.length = 0
 · obtain rfl : f = [] := List.eq_nil_of_length_eq_zero f0
   refine pow_walk0 K a0 A1 A2 A3 A4 c1 c2 c3 c4 l1 l2 l3 l4 p a [] (toL E) (toL M) [] 3 hof ma mf he hm ?_ rfl rfl rfl w hG r1 r2 r3 r4
   unfold modp_PowMod.f
   exact if_pos rfl
 by_cases f1 : f.length = 1
 · refine pow_walk1 K a0 A1 A2 A3 A4 c1 c2 c3 c4 l1 l2 l3 l4 p a f (toL E) (toL M) [] 1 hof ma mf he hm ?_ f1 rfl rfl w hG r1 r2 r3 r4
   unfold modp_PowMod.f
   rw [if_neg (by omega), if_pos (by omega)]
 have hEM : (toL (E + M)).length ≤ 10 := by
   have e1 := toL_length_le.1 le
   have e2 := toL_length_le.1 lm
   exact toL_length_le.2 (by omega)
 have hadd := radd_f (k := K) le lm (by omega) (by omega)
 obtain ⟨y, ry, ly, cy, ky⟩ := powmod_is p hpp hp2 a (toL E) f E _ ra rf (by omega) (by omega) (by omega) (bits_of (by omega))
 obtain ⟨z, rz, lz, cz, kz⟩ := powmod_is p hpp hp2 a (toL M) f M _ ra rf (by omega) (by omega) (by omega) (bits_of (by omega))
 obtain ⟨bo, rbo, lbo, cbo, kbo⟩ := powmod_is p hpp hp2 a (toL (E + M)) f (E + M) _ ra rf (by omega) (by omega) (by omega) (bits_of hEM)
 have n0 : toL 0 = [] := toL_zero
 have n1 : toL 1 = [1] := by rw [toL_pos (by omega)]; show [_] ++ toL 0 = _; rw [toL_zero]; rfl
 obtain ⟨no, rno, lno, cno, kno⟩ := powmod_is p hpp hp2 a (toL 0) f 0 _ ra rf (by omega) (by omega) (by omega) (bits_of (by rw [n0]; simp))
 obtain ⟨on, ron, lon, con, kon⟩ := powmod_is p hpp hp2 a (toL 1) f 1 _ ra rf (by omega) (by omega) (by omega) (bits_of (by rw [n1]; simp))
 rw [n0] at kno
 rw [n1] at kon
 obtain ⟨aa, raa, laa, caa, kaa⟩ := mul_cg p hpp hp2 a a ra ra (by omega) (by omega)
 obtain ⟨sq, rsq, lsq, csq, ksq⟩ := powmod_is p hpp hp2 aa (toL E) f E _ raa rf (by omega) (by omega) (by omega) (bits_of (by omega))
 obtain ⟨yz, ryz, lyz, cyz, kyz⟩ := mul_cg p hpp hp2 y z ry rz (by omega) (by omega)
 obtain ⟨yy, ryy, lyy, cyy, kyy⟩ := mul_cg p hpp hp2 y y ry ry (by omega) (by omega)
 obtain ⟨q1, s1, rs1, ls1, cs1, ks1⟩ := divrest_is p hpp hp2 yz f ryz rf (by omega) (by omega) (by omega)
 obtain ⟨q2, s2, rs2, ls2, cs2, ks2⟩ := divrest_is p hpp hp2 a f ra rf (by omega) (by omega) (by omega)
 obtain ⟨q3, s3, rs3, ls3, cs3, ks3⟩ := divrest_is p hpp hp2 yy f ryy rf (by omega) (by omega) (by omega)
 have pE : PF (fun t => valL a t ^ E) := (PF.of a).pow E
 have pM : PF (fun t => valL a t ^ M) := (PF.of a).pow M
 obtain rfl : s1 = bo := by
   refine Cf.eq hpp rf rs1 rbo ls1 lbo ?_
   refine cs1.trans ((Cf.of cyz).trans ((Cf.mul pE pM cy cz).trans ((Cf.of_eq _ _ (fun t => ?_)).trans cbo.symm)))
   rw [Int.pow_add]
 obtain rfl : no = [1] := by
   refine Cf.eq hpp rf rno ⟨fun x hx => by simp at hx; have := hpp.1; omega, .inr ⟨[], 1, rfl, by decide⟩⟩ lno (by simp; omega) ?_
   exact cno.trans (Cf.of_eq _ _ (fun t => by simp [valL]))
 obtain rfl : on = s2 := by
   refine Cf.eq hpp rf ron rs2 lon ls2 ?_
   exact con.trans ((Cf.of_eq _ _ (fun t => Int.pow_one _)).trans cs2.symm)
 obtain rfl : sq = s3 := by
   refine Cf.eq hpp rf rsq rs3 lsq ls3 ?_
   refine csq.trans ((Cf.pow ((PF.of a).mul (PF.of a)) (Cf.of caa) E).trans ((Cf.of_eq _ _ (fun t => ?_)).trans ((Cf.mul pE pE cy cy).symm.trans ((Cf.of cyy).symm.trans cs3.symm))))
   exact pow_mul_i _ _ _
 exact pow_walk2 K a0 A1 A2 A3 A4 c1 c2 c3 c4 l1 l2 l3 l4 p a f (toL E) (toL M) y 0 hof ma mf he hm (ky K hK) (by omega) (by omega) rfl z _ _ _ _ aa _ yz yy q1 _ q2 _ q3 _ 0 0 0 (kz K hK) hadd (kbo K hK) (kno K hK) (kon K hK) (kaa K (by omega)) (ksq K hK) (kyz K (by omega)) (ks1 K (by omega)) (ks2 K (by omega)) (kyy K (by omega)) (ks3 K (by omega)) (refsame_is _ (by omega) K (by omega)) (refsame_is _ (by simp) K (by simp; omega)) (refsame_is _ (by omega) K (by omega)) (refsame_is _ (by omega) K (by omega)) w hG r1 r2 r3 r4
end Go.Proofs.YtofbpjpdahcghaaDoor.Q
