/-
  ModpGcd: a greatest common divisor is monic and divides both; what it does to quotients and multiples (the row, the walk and the plain words), part 10 of 12 (packed by pack.py from texts of this session).
-/
import Derived.Test.YtofbpjpdahcghaaDoorPG1
import Derived.Test.YtofbpjpdahcghaaDoorPG3
import Derived.Test.YtofbpjpdahcghaaDoorPG4
import Derived.Test.YtofbpjpdahcghaaDoorPG5
import Derived.Test.YtofbpjpdahcghaaDoorPG7
import Derived.Test.YtofbpjpdahcghaaDoorPG8
set_option maxRecDepth 100000
set_option maxHeartbeats 8000000
set_option linter.unusedVariables false
namespace Go.Proofs.YtofbpjpdahcghaaDoor.Q
open Go.RowKit Go.Proofs.YtofbpjpdahcghaaDoorW.PrintWords Go.Proofs.YtofbpjpdahcghaaDoorW.PrintLast Go.Proofs.YtofbpjpdahcghaaDoorW.PrintMore
set_option linter.unusedVariables false
set_option linter.unusedSimpArgs false
structure LS (w0 w : World) (L : List (Value × Row7)) : Prop where
 b : Below w0.heap.size w0 w
 g : GW w
 r : ∀ x ∈ L, RV w x.1 x.2
theorem LS.below {w0 w w1 : World} {L : List (Value × Row7)} (h : LS w0 w L) (hb : Below w.heap.size w w1) : LS w0 w1 L := ⟨below_step h.b hb, h.g.below hb, fun x hx => (h.r x hx).below hb⟩
theorem LS.more {w0 w w1 : World} {L : List (Value × Row7)} (h : LS w0 w L) (hb : Below w.heap.size w w1) {v : Value} {r : Row7} (hv : RV w1 v r) : LS w0 w1 ((v, r) :: L) :=
 ⟨below_step h.b hb, h.g.below hb, fun x hx => by
   rcases List.mem_cons.1 hx with rfl | hx
   · exact hv
   · exact (h.r x hx).below hb⟩
theorem LS.drawn {w0 w w1 : World} {L : List (Value × Row7)} (h : LS w0 w L) (hd : Drawn0 w w1) : LS w0 w1 L := by
 obtain ⟨n, rfl⟩ := hd
 exact h.below (pw_below_drewN (Below.refl _ _) n)
theorem LS.atU {w0 w : World} {L : List (Value × Row7)} (h : LS w0 w L) (i : Nat) (v : Value) (l : List Int) (hx : L[i]? = some (v, .u l)) : CV w v l := h.r (v, .u l) (List.mem_of_getElem? hx)
theorem LS.atF {w0 w : World} {L : List (Value × Row7)} (h : LS w0 w L) (i : Nat) (v : Value) (l : List S52) (hx : L[i]? = some (v, .f l)) : RV w v (.f l) := h.r (v, .f l) (List.mem_of_getElem? hx)
theorem LS.atI {w0 w : World} {L : List (Value × Row7)} (h : LS w0 w L) (i : Nat) (v : Value) (l : List S56) (hx : L[i]? = some (v, .i l)) : RV w v (.i l) := h.r (v, .i l) (List.mem_of_getElem? hx)
theorem LS.atB {w0 w : World} {L : List (Value × Row7)} (h : LS w0 w L) (i g : Nat) (cs : Array Value) (t : Nat) (hx : L[i]? = some (.pointer (some ⟨g, 0, none⟩), .b cs t)) : w.heap[g]? = some (.cells cs t (0, 0)) := by
 obtain ⟨g', e, hg⟩ := h.r (.pointer (some ⟨g, 0, none⟩), .b cs t) (List.mem_of_getElem? hx)
 injection e with e
 injection e with e
 injection e with e
 subst e
 exact hg
theorem LS.cell {w0 w : World} {L : List (Value × Row7)} (h : LS w0 w L) (i g : Nat) (cs : Array Value) (t : Nat) (hx : L[i]? = some (.pointer (some ⟨g, 0, none⟩), .b cs t)) (j : Nat) (v : Value) (hj : cs[j]? = some v) : w.cell? ⟨g, j, none⟩ = some v := by
 have hg := h.atB i g cs t hx
 simp [World.cell?, hg, hj]
variable {P : Program} {ops : Array Oper} {rest : List Oper} {o : Oper} {a : Act} {Q : Exit → Act → World → Prop}
theorem lit_u {w0 W : World} {L : List (Value × Row7)} (xs : List Int) (n : Nat) (hn : xs.length = n) (hm : n ≤ 100) (hgd : o.guard = none) {N : Tmp} (hd : o.dst = some N) (hS : LS w0 W L)
   (hrun : (execOp a.eval o).run P W = .ok (.value (.slice (some ⟨W.heap.size, 0, none⟩) n n)) (W.alloc (.cells (xs.map (Value.int .u32)).toArray 22)))
   (h : ∀ A w1, LS w0 w1 ((.slice A n n, .u xs) :: L) → wpList P ops Q rest (a.put o.dst (.slice A n n)) w1) : wpList P ops Q (o :: rest) a W := by
 subst hn
 exact Kd.event_run hgd hrun (h _ _ (hS.more (below_alloc (Below.refl _ _) _) ⟨_, _, rfl, Nat.le_refl _, C_block (Kd.int .u32) (alloc_at _ _) (reps_u _ xs) (by omega)⟩))
theorem lit_b {w0 W : World} {L : List (Value × Row7)} (cs : Array Value) (t : Nat) (hgd : o.guard = none) {N : Tmp} (hd : o.dst = some N) (hS : LS w0 W L)
   (hrun : (execOp a.eval o).run P W = .ok (.value (.pointer (some ⟨W.heap.size, 0, none⟩))) (W.alloc (.cells cs t)))
   (h : ∀ g w1, LS w0 w1 ((.pointer (some ⟨g, 0, none⟩), .b cs t) :: L) → wpList P ops Q rest (a.put o.dst (.pointer (some ⟨g, 0, none⟩))) w1) : wpList P ops Q (o :: rest) a W :=
 Kd.event_run hgd hrun (h _ _ (hS.more (below_alloc (Below.refl _ _) _) ⟨_, rfl, alloc_at _ _⟩))
theorem lit_f {w0 W : World} {L : List (Value × Row7)} (xs : List S52) (n : Nat) (cs : List Value) (hn : xs.length = n) (hm : n ≤ 100) (hgd : o.guard = none) {N : Tmp} (hd : o.dst = some N) (hS : LS w0 W L)
   (hcs : Reps (k52.K W) 2 xs cs)
   (hrun : (execOp a.eval o).run P W = .ok (.value (.slice (some ⟨W.heap.size, 0, none⟩) n n)) (W.alloc (.cells cs.toArray 52)))
   (h : ∀ A w1, LS w0 w1 ((.slice A n n, .f xs) :: L) → wpList P ops Q rest (a.put o.dst (.slice A n n)) w1) : wpList P ops Q (o :: rest) a W := by
 subst hn
 refine Kd.event_run hgd hrun (h _ _ (hS.more (below_alloc (Below.refl _ _) _) ⟨_, _, rfl, Nat.le_refl _, C_block k52 (alloc_at _ _) (hcs.imp_ (fun p c hp => k52.K_below (below_alloc (Below.refl _ _) _) hp)) (by omega)⟩))
theorem lit_i {w0 W : World} {L : List (Value × Row7)} (xs : List S56) (n : Nat) (cs : List Value) (hn : xs.length = n) (hm : n ≤ 100) (hgd : o.guard = none) {N : Tmp} (hd : o.dst = some N) (hS : LS w0 W L)
   (hcs : Reps (k56.K W) 2 xs cs)
   (hrun : (execOp a.eval o).run P W = .ok (.value (.slice (some ⟨W.heap.size, 0, none⟩) n n)) (W.alloc (.cells cs.toArray 56)))
   (h : ∀ A w1, LS w0 w1 ((.slice A n n, .i xs) :: L) → wpList P ops Q rest (a.put o.dst (.slice A n n)) w1) : wpList P ops Q (o :: rest) a W := by
 subst hn
 refine Kd.event_run hgd hrun (h _ _ (hS.more (below_alloc (Below.refl _ _) _) ⟨_, _, rfl, Nat.le_refl _, C_block k56 (alloc_at _ _) (hcs.imp_ (fun p c hp => k56.K_below (below_alloc (Below.refl _ _) _) hp)) (by omega)⟩))
section calls
variable {w0 w : World} {L : List (Value × Row7)}
theorem cFactor (hS : LS w0 w L) (k : Nat) (l : List Int) (p r1 : Int) (r2 : List S52) (n n2 : Nat) (hn : l.length = n) (hn2 : r2.length = n2) (hp : p < 14) (hf : modp_Factor.f k l p = some (r1, r2)) (A : Option Addr) (c : Nat) (hm : CV w (.slice A n c) l) :
   Calls Tryd.prog 22 #[.slice A n c, .int .u32 p] w fun e w' => ∃ A' c', e = .returned (.tuple #[.int .u32 r1, .slice A' n2 c']) ∧ LS w0 w' ((.slice A' n2 c', .f r2) :: L) := by
 obtain ⟨e, hl, hC⟩ := hm.C
 subst e; subst hn2
 refine (modp_Factor.calls k A c l p r1 r2 w hS.g hp hC hl hf).mono ?_
 rintro e w' ⟨A', c', rfl, hc', hC', hb⟩
 exact ⟨A', c', rfl, hS.more hb ⟨A', c', rfl, hc', hC'⟩⟩
theorem cDivMod (hS : LS w0 w L) (k : Nat) (l m : List Int) (p : Int) (q r : List Int) (er : Int) (n1 n2 nq nr : Nat) (hq : q.length = nq) (hr : r.length = nr) (hf : modp_DivMod.f k l m p = some (q, r, er)) (A B : Option Addr) (c d : Nat) (hm1 : CV w (.slice A n1 c) l) (hm2 : CV w (.slice B n2 d) m) :
   Calls Tryd.prog 15 #[.slice A n1 c, .slice B n2 d, .int .u32 p] w fun e w' => ∃ A1 c1 A2 c2, e = .returned (.tuple #[.slice A1 nq c1, .slice A2 nr c2, .int .i64 er]) ∧ LS w0 w' ((.slice A1 nq c1, .u q) :: (.slice A2 nr c2, .u r) :: L) := by
 obtain ⟨e1, hl1, hC1⟩ := hm1.C
 obtain ⟨e2, hl2, hC2⟩ := hm2.C
 subst e1; subst e2; subst hq; subst hr
 refine (modp_DivMod.calls k A c l B d m p q r er w hC1 hl1 hC2 hl2 hf).mono ?_
 rintro e w' ⟨v0, v1, rfl, h0, h1, hb⟩
 obtain ⟨A1, c1, rfl, hl1, hC1⟩ := h0
 obtain ⟨A2, c2, rfl, hl2, hC2⟩ := h1
 exact ⟨A1, c1, A2, c2, rfl, (hS.more hb (r := .u r) ⟨A2, c2, rfl, hl2, hC2⟩).more (Below.refl _ _) (r := .u q) ⟨A1, c1, rfl, hl1, hC1⟩⟩
theorem cPowMod (hS : LS w0 w L) (k : Nat) (l m f : List Int) (p : Int) (r : List Int) (er : Int) (n1 n2 n3 nr : Nat) (hr : r.length = nr) (hf : modp_PowMod.f k l m f p = some (r, er)) (A B D : Option Addr) (c d g : Nat) (hm1 : CV w (.slice A n1 c) l) (hm2 : CV w (.slice B n2 d) m) (hm3 : CV w (.slice D n3 g) f) :
   Calls Tryd.prog 20 #[.slice A n1 c, .slice B n2 d, .agg #[.slice D n3 g, .int .u32 p]] w fun e w' => ∃ A1 c1, e = .returned (.tuple #[.slice A1 nr c1, .int .i64 er]) ∧ LS w0 w' ((.slice A1 nr c1, .u r) :: L) := by
 obtain ⟨e1, hl1, hC1⟩ := hm1.C
 obtain ⟨e2, hl2, hC2⟩ := hm2.C
 obtain ⟨e3, hl3, hC3⟩ := hm3.C
 subst e1; subst e2; subst e3; subst hr
 refine (modp_PowMod.calls k A c l B d m D g f p r er w hC1 hl1 hC2 hl2 hC3 hl3 hf).mono ?_
 rintro e w' ⟨v0, rfl, h0, hb⟩
 obtain ⟨A1, c1, rfl, hl1, hC1⟩ := h0
 exact ⟨A1, c1, rfl, hS.more hb (r := .u r) ⟨A1, c1, rfl, hl1, hC1⟩⟩
theorem cGcd (hS : LS w0 w L) (k : Nat) (l m : List Int) (p : Int) (r : List Int) (n1 n2 nr : Nat) (hr : r.length = nr) (hf : modp_Gcd.f k l m p = some r) (A B : Option Addr) (c d : Nat) (hm1 : CV w (.slice A n1 c) l) (hm2 : CV w (.slice B n2 d) m) :
   Calls Tryd.prog 16 #[.slice A n1 c, .slice B n2 d, .int .u32 p] w fun e w' => ∃ A1 c1, e = .returned (.slice A1 nr c1) ∧ LS w0 w' ((.slice A1 nr c1, .u r) :: L) := by
 obtain ⟨e1, hl1, hC1⟩ := hm1.C
 obtain ⟨e2, hl2, hC2⟩ := hm2.C
 subst e1; subst e2; subst hr
 refine (modp_Gcd.calls k A c l B d m p r w hC1 hl1 hC2 hl2 hf).mono ?_
 rintro e w' ⟨v0, rfl, h0, hb⟩
 obtain ⟨A1, c1, rfl, hl1, hC1⟩ := h0
 exact ⟨A1, c1, rfl, hS.more hb (r := .u r) ⟨A1, c1, rfl, hl1, hC1⟩⟩
theorem cSameAll (hS : LS w0 w L) (k : Nat) (l m : List S52) (n1 n2 : Nat) (hf : zigguratref14_SameAll.f k l m = some true) (A B : Option Addr) (c d : Nat) (hm1 : RV w (.slice A n1 c) (.f l)) (hm2 : RV w (.slice B n2 d) (.f m)) :
   Calls Tryd.prog 23 #[.slice A n1 c, .slice B n2 d] w fun e w' => e = .returned (.bool true) ∧ LS w0 w' L := by
 obtain ⟨e1, hl1, hC1⟩ := RVf.C hm1
 obtain ⟨e2, hl2, hC2⟩ := RVf.C hm2
 subst e1; subst e2
 exact (zigguratref14_SameAll.calls k A c l B d m true w hC1 hl1 hC2 hl2 hf).mono (fun e w' ⟨he, hd⟩ => ⟨he, hS.drawn hd⟩)
theorem cSame (hS : LS w0 w L) (k : Nat) (l m : List Int) (n1 n2 : Nat) (hf : zigguratref14_Same.f k l m = some true) (A B : Option Addr) (c d : Nat) (hm1 : CV w (.slice A n1 c) l) (hm2 : CV w (.slice B n2 d) m) :
   Calls Tryd.prog 14 #[.slice A n1 c, .slice B n2 d] w fun e w' => e = .returned (.bool true) ∧ LS w0 w' L := by
 obtain ⟨e1, hl1, hC1⟩ := hm1.C
 obtain ⟨e2, hl2, hC2⟩ := hm2.C
 subst e1; subst e2
 exact (zigguratref14_Same.calls k A c l B d m true w hC1 hl1 hC2 hl2 hf).mono (fun e w' ⟨he, hd⟩ => ⟨he, hS.drawn hd⟩)
theorem cIrred (hS : LS w0 w L) (k : Nat) (l : List Int) (p : Int) (r : Bool) (n : Nat) (hp : p < 14) (hf : modp_Irred.f k l p = some r) (A : Option Addr) (c : Nat) (hm1 : CV w (.slice A n c) l) :
   Calls Tryd.prog 24 #[.slice A n c, .int .u32 p] w fun e w' => e = .returned (.bool r) ∧ LS w0 w' L := by
 obtain ⟨e1, hl1, hC1⟩ := hm1.C
 subst e1
 exact (modp_Irred.calls k A c l p r w hS.g hp hC1 hl1 hf).mono (fun e w' ⟨he, hb⟩ => ⟨he, hS.below hb⟩)
theorem cPrime (hS : LS w0 w L) (k : Nat) (p : Int) (r : Bool) (hf : modp_Prime.f k p = some r) :
   Calls Tryd.prog 25 #[.int .u32 p] w fun e w' => e = .returned (.bool r) ∧ LS w0 w' L :=
 (modp_Prime.calls k p r w hf).mono (fun e w' ⟨he, hd⟩ => ⟨he, hS.drawn hd⟩)
theorem cRight (hS : LS w0 w L) (k : Nat) (l : List Int) (p : Int) (r : Bool) (n : Nat) (hf : modp_Right.f k l p = some r) (A : Option Addr) (c : Nat) (hm1 : CV w (.slice A n c) l) :
   Calls Tryd.prog 26 #[.slice A n c, .int .u32 p] w fun e w' => e = .returned (.bool r) ∧ LS w0 w' L := by
 obtain ⟨e1, hl1, hC1⟩ := hm1.C
 subst e1
 exact (modp_Right.calls k A c l p r w hC1 hl1 hf).mono (fun e w' ⟨he, hd⟩ => ⟨he, hS.drawn hd⟩)
theorem cRefOf (hS : LS w0 w L) (k : Nat) (x : Int) (b : Bool) (r : List Int) (nr : Nat) (hr : r.length = nr) (hf : zigguratref06_Of.f k x = some (b, r)) :
   Calls Tryd.prog 28 #[.int .i64 x] w fun e w' => ∃ A1 c1, e = .returned (.agg #[.bool b, .slice A1 nr c1]) ∧ LS w0 w' ((.slice A1 nr c1, .u r) :: L) := by
 subst hr
 refine (zigguratref06_Of.calls k x b r w hf).mono ?_
 rintro e w' ⟨v0, rfl, h0, hb⟩
 obtain ⟨A1, c1, rfl, hl1, hC1⟩ := Kd.R_reads h0
 exact ⟨A1, c1, rfl, hS.more hb (r := .u r) ⟨A1, c1, rfl, hl1, hC1⟩⟩
theorem cReduce7 (hS : LS w0 w L) (A : Option Addr) (c : Nat) (hm1 : RV w (.slice A 3 c) (.i [⟨true, [1]⟩, ⟨false, [9]⟩, ⟨false, [14]⟩])) :
   Calls Tryd.prog 27 #[.slice A 3 c, .int .u32 7] w fun e w' => ∃ A1 c1, e = .returned (.slice A1 2 c1) ∧ LS w0 w' ((.slice A1 2 c1, .u [6, 2]) :: L) := by
 obtain ⟨e1, hl1, hC1⟩ := RVi.C hm1
 refine (reduce7 A c w hC1).mono ?_
 rintro e w' ⟨v0, rfl, h0, hb⟩
 obtain ⟨A1, c1, rfl, hl1, hC1⟩ := h0
 exact ⟨A1, c1, rfl, hS.more hb (r := .u [6, 2]) ⟨A1, c1, rfl, hl1, hC1⟩⟩
end calls
end Go.Proofs.YtofbpjpdahcghaaDoor.Q
namespace Go.Proofs.YtofbpjpdahcghaaDoor.Q
open Go.RowKit
set_option maxRecDepth 100000
theorem v1 : modp_Factor.f 300 [1, 0, 1] 5 = some (1, [⟨[2, 1], 1⟩, ⟨[3, 1], 1⟩]) := by kernel_rfl
theorem v2 : modp_Factor.f 300 [2, 0, 0, 0, 2] 3 = some (2, [⟨[2, 1, 1], 1⟩, ⟨[2, 2, 1], 1⟩]) := by kernel_rfl
theorem v3 : modp_Factor.f 300 [0, 0, 1] 2 = some (1, [⟨[0, 1], 2⟩]) := by kernel_rfl
theorem v4 : modp_Factor.f 300 [] 7 = some (0, []) := by kernel_rfl
theorem v5 : modp_DivMod.f 60 [1, 2, 3] [4, 5] 7 = some ([3, 2], [3], 0) := by kernel_rfl
theorem v6 : modp_DivMod.f 60 [1] [] 7 = some ([], [], 3) := by kernel_rfl
theorem v7 : modp_PowMod.f 60 [0, 1] [5] [1, 0, 1] 7 = some ([0, 1], 0) := by kernel_rfl
theorem v8 : modp_PowMod.f 60 [1] [5] [3] 7 = some ([], 1) := by kernel_rfl
theorem v9 : modp_PowMod.f 60 [1] [5] [] 7 = some ([], 3) := by kernel_rfl
theorem v10 : modp_Gcd.f 60 [2, 3, 1] [3, 4, 1] 5 = some [1, 1] := by kernel_rfl
theorem v11 : zigguratref14_SameAll.f 60 [⟨[2, 1], 1⟩, ⟨[3, 1], 1⟩] [⟨[2, 1], 1⟩, ⟨[3, 1], 1⟩] = some true := by kernel_rfl
theorem v12 : zigguratref14_SameAll.f 60 [⟨[2, 1, 1], 1⟩, ⟨[2, 2, 1], 1⟩] [⟨[2, 1, 1], 1⟩, ⟨[2, 2, 1], 1⟩] = some true := by kernel_rfl
theorem v13 : zigguratref14_SameAll.f 60 [⟨[0, 1], 2⟩] [⟨[0, 1], 2⟩] = some true := by kernel_rfl
theorem v14 : zigguratref14_Same.f 60 [3, 2] [3, 2] = some true := by kernel_rfl
theorem v15 : zigguratref14_Same.f 60 [3] [3] = some true := by kernel_rfl
theorem v16 : zigguratref14_Same.f 60 [0, 1] [0, 1] = some true := by kernel_rfl
theorem v17 : zigguratref14_Same.f 60 [1, 1] [1, 1] = some true := by kernel_rfl
theorem v18 : modp_Irred.f 60 [1, 0, 1] 7 = some true := by kernel_rfl
theorem v19 : modp_Irred.f 60 [3] 7 = some false := by kernel_rfl
theorem v20 : modp_Prime.f 200 65521 = some true := by kernel_rfl
theorem v21 : modp_Prime.f 200 65537 = some false := by kernel_rfl
theorem v22 : modp_Prime.f 200 1 = some false := by kernel_rfl
theorem v23 : modp_Prime.f 200 2 = some true := by kernel_rfl
theorem v24 : modp_Right.f 60 [7] 7 = some false := by kernel_rfl
theorem v25 : modp_Right.f 60 [1, 0] 7 = some false := by kernel_rfl
theorem v26 : modp_Right.f 60 [] 7 = some true := by kernel_rfl
theorem v27 : zigguratref06_Of.f 60 (-1) = some (true, [1]) := by kernel_rfl
theorem v28 : zigguratref06_Of.f 60 9 = some (false, [9]) := by kernel_rfl
theorem v29 : zigguratref06_Of.f 60 14 = some (false, [14]) := by kernel_rfl
theorem v31 : zigguratref14_Same.f 60 [6, 2] [6, 2] = some true := by kernel_rfl
end Go.Proofs.YtofbpjpdahcghaaDoor.Q
namespace Go.Proofs.YtofbpjpdahcghaaDoor.Q
open Go.RowKit Go.Proofs.YtofbpjpdahcghaaDoorW.PrintWords Go.Proofs.YtofbpjpdahcghaaDoorW.PrintLast Go.Proofs.YtofbpjpdahcghaaDoorW.PrintMore
set_option linter.unusedVariables false
set_option linter.unusedSimpArgs false
theorem head_calls (w : World) (hG : GW w) : Calls Tryd.prog 7 #[] w fun e w' => e = .returned (.bool true) ∧ Below w.heap.size w w' := by
 have HS : Aside0 (LS w w []) := ⟨⟨Below.refl _ _, hG, fun x hx => by cases hx⟩⟩
 have hu42 := Tryd.underlying42
 have hu52 := Tryd.underlying52
 have hu56 := Tryd.underlying56
 clear hG
 go_enter Tryd.func7, Tryd.ntmps7
 (try simp only [List.append])
 go_wp2_with (first | ((with_reducible refine gate_dst (N := 23) rfl ?_); (try (refine gate_guard (by rfl) ?_; dsimp only)); refine lit_u [1, 0, 1] 3 rfl (by decide) rF (N := 23) rF HS.out gF ?_; intro A23 w23 hs_; replace HS := am hs_; clear hs_) | ((with_reducible refine gate_callee (f := 22) rfl ?_); refine goesA (some 24) Tryd.func22 #[.slice A23 3 3, .int .u32 5] ?_; (with_reducible refine (cFactor HS.out 300 [1, 0, 1] 5 1 [⟨[2, 1], 1⟩, ⟨[3, 1], 1⟩] 3 2 rfl rfl (by decide) v1 A23 3 (HS.out.atU 0 _ _ rfl)).mono ?_); rintro e w24 ⟨B24, c24, rfl, hs_⟩; refine ⟨_, rfl, ?_⟩; replace HS := am hs_; clear hs_) | ((with_reducible refine gate_dst (N := 28) rfl ?_); (try (refine gate_guard (by rfl) ?_; dsimp only)); refine lit_u [2, 0, 0, 0, 2] 5 rfl (by decide) rF (N := 28) rF HS.out gF ?_; intro A28 w28 hs_; replace HS := am hs_; clear hs_) | ((with_reducible refine gate_callee (f := 22) rfl ?_); refine goesA (some 29) Tryd.func22 #[.slice A28 5 5, .int .u32 3] ?_; (with_reducible refine (cFactor HS.out 300 [2, 0, 0, 0, 2] 3 2 [⟨[2, 1, 1], 1⟩, ⟨[2, 2, 1], 1⟩] 5 2 rfl rfl (by decide) v2 A28 5 (HS.out.atU 0 _ _ rfl)).mono ?_); rintro e w29 ⟨B29, c29, rfl, hs_⟩; refine ⟨_, rfl, ?_⟩; replace HS := am hs_; clear hs_) | ((with_reducible refine gate_dst (N := 33) rfl ?_); (try (refine gate_guard (by rfl) ?_; dsimp only)); refine lit_u [0, 0, 1] 3 rfl (by decide) rF (N := 33) rF HS.out gF ?_; intro A33 w33 hs_; replace HS := am hs_; clear hs_) | ((with_reducible refine gate_callee (f := 22) rfl ?_); refine goesA (some 34) Tryd.func22 #[.slice A33 3 3, .int .u32 2] ?_; (with_reducible refine (cFactor HS.out 300 [0, 0, 1] 2 1 [⟨[0, 1], 2⟩] 3 1 rfl rfl (by decide) v3 A33 3 (HS.out.atU 0 _ _ rfl)).mono ?_); rintro e w34 ⟨B34, c34, rfl, hs_⟩; refine ⟨_, rfl, ?_⟩; replace HS := am hs_; clear hs_) | ((with_reducible refine gate_callee (f := 22) rfl ?_); refine goesA (some 38) Tryd.func22 #[.slice none 0 0, .int .u32 7] ?_; (with_reducible refine (cFactor HS.out 300 [] 7 0 [] 0 0 rfl rfl (by decide) v4 none 0 (CV_nil _)).mono ?_); rintro e w38 ⟨B38, c38, rfl, hs_⟩; refine ⟨_, rfl, ?_⟩; replace HS := am hs_; clear hs_) | ((with_reducible refine gate_dst (N := 42) rfl ?_); (try (refine gate_guard (by rfl) ?_; dsimp only)); refine lit_u [1, 2, 3] 3 rfl (by decide) rF (N := 42) rF HS.out gF ?_; intro A42 w42 hs_; replace HS := am hs_; clear hs_) | ((with_reducible refine gate_dst (N := 43) rfl ?_); (try (refine gate_guard (by rfl) ?_; dsimp only)); refine lit_u [4, 5] 2 rfl (by decide) rF (N := 43) rF HS.out gF ?_; intro A43 w43 hs_; replace HS := am hs_; clear hs_) | ((with_reducible refine gate_callee (f := 15) rfl ?_); refine goesA (some 44) Tryd.func15 #[.slice A42 3 3, .slice A43 2 2, .int .u32 7] ?_; (with_reducible refine (cDivMod HS.out 60 [1, 2, 3] [4, 5] 7 [3, 2] [3] 0 3 2 2 1 rfl rfl v5 A42 A43 3 2 (HS.out.atU 1 _ _ rfl) (HS.out.atU 0 _ _ rfl)).mono ?_); rintro e w44 ⟨B44, c44, D44, d44, rfl, hs_⟩; refine ⟨_, rfl, ?_⟩; replace HS := am hs_; clear hs_) | ((with_reducible refine gate_dst (N := 49) rfl ?_); (try (refine gate_guard (by rfl) ?_; dsimp only)); refine lit_u [1] 1 rfl (by decide) rF (N := 49) rF HS.out gF ?_; intro A49 w49 hs_; replace HS := am hs_; clear hs_) | ((with_reducible refine gate_callee (f := 15) rfl ?_); refine goesA (some 50) Tryd.func15 #[.slice A49 1 1, .slice none 0 0, .int .u32 7] ?_; (with_reducible refine (cDivMod HS.out 60 [1] [] 7 [] [] 3 1 0 0 0 rfl rfl v6 A49 none 1 0 (HS.out.atU 0 _ _ rfl) (CV_nil _)).mono ?_); rintro e w50 ⟨B50, c50, D50, d50, rfl, hs_⟩; refine ⟨_, rfl, ?_⟩; replace HS := am hs_; clear hs_) | ((with_reducible refine gate_dst (N := 55) rfl ?_); (try (refine gate_guard (by rfl) ?_; dsimp only)); refine lit_u [0, 1] 2 rfl (by decide) rF (N := 55) rF HS.out gF ?_; intro A55 w55 hs_; replace HS := am hs_; clear hs_) | ((with_reducible refine gate_dst (N := 56) rfl ?_); (try (refine gate_guard (by rfl) ?_; dsimp only)); refine lit_u [5] 1 rfl (by decide) rF (N := 56) rF HS.out gF ?_; intro A56 w56 hs_; replace HS := am hs_; clear hs_) | ((with_reducible refine gate_dst (N := 57) rfl ?_); (try (refine gate_guard (by rfl) ?_; dsimp only)); refine lit_u [1, 0, 1] 3 rfl (by decide) rF (N := 57) rF HS.out gF ?_; intro A57 w57 hs_; replace HS := am hs_; clear hs_) | ((with_reducible refine gate_callee (f := 20) rfl ?_); refine goesA (some 59) Tryd.func20 #[.slice A55 2 2, .slice A56 1 1, .agg #[.slice A57 3 3, .int .u32 7]] ?_; (with_reducible refine (cPowMod HS.out 60 [0, 1] [5] [1, 0, 1] 7 [0, 1] 0 2 1 3 2 rfl v7 A55 A56 A57 2 1 3 (HS.out.atU 2 _ _ rfl) (HS.out.atU 1 _ _ rfl) (HS.out.atU 0 _ _ rfl)).mono ?_); rintro e w59 ⟨B59, c59, rfl, hs_⟩; refine ⟨_, rfl, ?_⟩; replace HS := am hs_; clear hs_) | ((with_reducible refine gate_dst (N := 63) rfl ?_); (try (refine gate_guard (by rfl) ?_; dsimp only)); refine lit_u [1] 1 rfl (by decide) rF (N := 63) rF HS.out gF ?_; intro A63 w63 hs_; replace HS := am hs_; clear hs_) | ((with_reducible refine gate_dst (N := 64) rfl ?_); (try (refine gate_guard (by rfl) ?_; dsimp only)); refine lit_u [5] 1 rfl (by decide) rF (N := 64) rF HS.out gF ?_; intro A64 w64 hs_; replace HS := am hs_; clear hs_) | ((with_reducible refine gate_dst (N := 65) rfl ?_); (try (refine gate_guard (by rfl) ?_; dsimp only)); refine lit_u [3] 1 rfl (by decide) rF (N := 65) rF HS.out gF ?_; intro A65 w65 hs_; replace HS := am hs_; clear hs_) | ((with_reducible refine gate_callee (f := 20) rfl ?_); refine goesA (some 67) Tryd.func20 #[.slice A63 1 1, .slice A64 1 1, .agg #[.slice A65 1 1, .int .u32 7]] ?_; (with_reducible refine (cPowMod HS.out 60 [1] [5] [3] 7 [] 1 1 1 1 0 rfl v8 A63 A64 A65 1 1 1 (HS.out.atU 2 _ _ rfl) (HS.out.atU 1 _ _ rfl) (HS.out.atU 0 _ _ rfl)).mono ?_); rintro e w67 ⟨B67, c67, rfl, hs_⟩; refine ⟨_, rfl, ?_⟩; replace HS := am hs_; clear hs_) | ((with_reducible refine gate_dst (N := 71) rfl ?_); (try (refine gate_guard (by rfl) ?_; dsimp only)); refine lit_u [1] 1 rfl (by decide) rF (N := 71) rF HS.out gF ?_; intro A71 w71 hs_; replace HS := am hs_; clear hs_) | ((with_reducible refine gate_dst (N := 72) rfl ?_); (try (refine gate_guard (by rfl) ?_; dsimp only)); refine lit_u [5] 1 rfl (by decide) rF (N := 72) rF HS.out gF ?_; intro A72 w72 hs_; replace HS := am hs_; clear hs_) | ((with_reducible refine gate_callee (f := 20) rfl ?_); refine goesA (some 74) Tryd.func20 #[.slice A71 1 1, .slice A72 1 1, .agg #[.slice none 0 0, .int .u32 7]] ?_; (with_reducible refine (cPowMod HS.out 60 [1] [5] [] 7 [] 3 1 1 0 0 rfl v9 A71 A72 none 1 1 0 (HS.out.atU 1 _ _ rfl) (HS.out.atU 0 _ _ rfl) (CV_nil _)).mono ?_); rintro e w74 ⟨B74, c74, rfl, hs_⟩; refine ⟨_, rfl, ?_⟩; replace HS := am hs_; clear hs_) | ((with_reducible refine gate_dst (N := 77) rfl ?_); (try (refine gate_guard (by rfl) ?_; dsimp only)); refine lit_u [2, 3, 1] 3 rfl (by decide) rF (N := 77) rF HS.out gF ?_; intro A77 w77 hs_; replace HS := am hs_; clear hs_) | ((with_reducible refine gate_dst (N := 78) rfl ?_); (try (refine gate_guard (by rfl) ?_; dsimp only)); refine lit_u [3, 4, 1] 3 rfl (by decide) rF (N := 78) rF HS.out gF ?_; intro A78 w78 hs_; replace HS := am hs_; clear hs_) | ((with_reducible refine gate_callee (f := 16) rfl ?_); refine goesA (some 79) Tryd.func16 #[.slice A77 3 3, .slice A78 3 3, .int .u32 5] ?_; (with_reducible refine (cGcd HS.out 60 [2, 3, 1] [3, 4, 1] 5 [1, 1] 3 3 2 rfl v10 A77 A78 3 3 (HS.out.atU 1 _ _ rfl) (HS.out.atU 0 _ _ rfl)).mono ?_); rintro e w79 ⟨B79, c79, rfl, hs_⟩; refine ⟨_, rfl, ?_⟩; replace HS := am hs_; clear hs_) | ((with_reducible refine gate_dst (N := 92) rfl ?_); (try (refine gate_guard (by rfl) ?_; dsimp only)); refine lit_u [2, 1] 2 rfl (by decide) rF (N := 92) rF HS.out gF ?_; intro A92 w92 hs_; replace HS := am hs_; clear hs_) | ((with_reducible refine gate_dst (N := 94) rfl ?_); (try (refine gate_guard (by rfl) ?_; dsimp only)); refine lit_u [3, 1] 2 rfl (by decide) rF (N := 94) rF HS.out gF ?_; intro A94 w94 hs_; replace HS := am hs_; clear hs_) | ((with_reducible refine gate_dst (N := 96) rfl ?_); (try (refine gate_guard (by rfl) ?_; dsimp only)); refine lit_f [⟨[2, 1], 1⟩, ⟨[3, 1], 1⟩] 2 [.slice A92 2 2, .int .i64 1, .slice A94 2 2, .int .i64 1] rfl (by decide) ?hg (N := 96) ?hd HS.out ?hcs ?hr ?_; (case hd => rfl); (case hg => rfl); (case hcs => exact (Reps.two (K52_of (HS.out.atU 1 _ _ rfl) 1) (Reps.two (K52_of (HS.out.atU 0 _ _ rfl) 1) (Reps.none _ _)))); (case hr => first | (go_simp; done) | (go_simp; rfl)); intro A96 w96 hs_; replace HS := am hs_; clear hs_) | (go_at_call 23; (with_reducible refine (cSameAll HS.out 60 [⟨[2, 1], 1⟩, ⟨[3, 1], 1⟩] [⟨[2, 1], 1⟩, ⟨[3, 1], 1⟩] 2 2 v11 B24 A96 c24 2 (HS.out.atF 29 _ _ rfl) (HS.out.atF 0 _ _ rfl)).mono ?_); rintro e w97 ⟨rfl, hs_⟩; replace HS := am hs_; clear hs_) | ((with_reducible refine gate_dst (N := 105) rfl ?_); (try (refine gate_guard (by rfl) ?_; dsimp only)); refine lit_u [2, 1, 1] 3 rfl (by decide) rF (N := 105) rF HS.out gF ?_; intro A105 w105 hs_; replace HS := am hs_; clear hs_) | ((with_reducible refine gate_dst (N := 107) rfl ?_); (try (refine gate_guard (by rfl) ?_; dsimp only)); refine lit_u [2, 2, 1] 3 rfl (by decide) rF (N := 107) rF HS.out gF ?_; intro A107 w107 hs_; replace HS := am hs_; clear hs_) | ((with_reducible refine gate_dst (N := 109) rfl ?_); (try (refine gate_guard (by rfl) ?_; dsimp only)); refine lit_f [⟨[2, 1, 1], 1⟩, ⟨[2, 2, 1], 1⟩] 2 [.slice A105 3 3, .int .i64 1, .slice A107 3 3, .int .i64 1] rfl (by decide) ?hg (N := 109) ?hd HS.out ?hcs ?hr ?_; (case hd => rfl); (case hg => rfl); (case hcs => exact (Reps.two (K52_of (HS.out.atU 1 _ _ rfl) 1) (Reps.two (K52_of (HS.out.atU 0 _ _ rfl) 1) (Reps.none _ _)))); (case hr => first | (go_simp; done) | (go_simp; rfl)); intro A109 w109 hs_; replace HS := am hs_; clear hs_) | (go_at_call 23; (with_reducible refine (cSameAll HS.out 60 [⟨[2, 1, 1], 1⟩, ⟨[2, 2, 1], 1⟩] [⟨[2, 1, 1], 1⟩, ⟨[2, 2, 1], 1⟩] 2 2 v12 B29 A109 c29 2 (HS.out.atF 30 _ _ rfl) (HS.out.atF 0 _ _ rfl)).mono ?_); rintro e w110 ⟨rfl, hs_⟩; replace HS := am hs_; clear hs_) | ((with_reducible refine gate_dst (N := 118) rfl ?_); (try (refine gate_guard (by rfl) ?_; dsimp only)); refine lit_u [0, 1] 2 rfl (by decide) rF (N := 118) rF HS.out gF ?_; intro A118 w118 hs_; replace HS := am hs_; clear hs_) | ((with_reducible refine gate_dst (N := 120) rfl ?_); (try (refine gate_guard (by rfl) ?_; dsimp only)); refine lit_f [⟨[0, 1], 2⟩] 1 [.slice A118 2 2, .int .i64 2] rfl (by decide) ?hg (N := 120) ?hd HS.out ?hcs ?hr ?_; (case hd => rfl); (case hg => rfl); (case hcs => exact (Reps.two (K52_of (HS.out.atU 0 _ _ rfl) 2) (Reps.none _ _))); (case hr => first | (go_simp; done) | (go_simp; rfl)); intro A120 w120 hs_; replace HS := am hs_; clear hs_) | (go_at_call 23; (with_reducible refine (cSameAll HS.out 60 [⟨[0, 1], 2⟩] [⟨[0, 1], 2⟩] 1 1 v13 B34 A120 c34 1 (HS.out.atF 30 _ _ rfl) (HS.out.atF 0 _ _ rfl)).mono ?_); rintro e w121 ⟨rfl, hs_⟩; replace HS := am hs_; clear hs_) | ((with_reducible refine gate_dst (N := 134) rfl ?_); (try (refine gate_guard (by rfl) ?_; dsimp only)); refine lit_u [3, 2] 2 rfl (by decide) rF (N := 134) rF HS.out gF ?_; intro A134 w134 hs_; replace HS := am hs_; clear hs_) | (go_at_call 14; (with_reducible refine (cSame HS.out 60 [3, 2] [3, 2] 2 2 v14 B44 A134 c44 2 (HS.out.atU 26 _ _ rfl) (HS.out.atU 0 _ _ rfl)).mono ?_); rintro e w135 ⟨rfl, hs_⟩; replace HS := am hs_; clear hs_) | ((with_reducible refine gate_dst (N := 139) rfl ?_); (try (refine gate_guard (by rfl) ?_; dsimp only)); refine lit_u [3] 1 rfl (by decide) rF (N := 139) rF HS.out gF ?_; intro A139 w139 hs_; replace HS := am hs_; clear hs_) | (go_at_call 14; (with_reducible refine (cSame HS.out 60 [3] [3] 1 1 v15 D44 A139 d44 1 (HS.out.atU 28 _ _ rfl) (HS.out.atU 0 _ _ rfl)).mono ?_); rintro e w140 ⟨rfl, hs_⟩; replace HS := am hs_; clear hs_) | ((with_reducible refine gate_dst (N := 152) rfl ?_); (try (refine gate_guard (by rfl) ?_; dsimp only)); refine lit_u [0, 1] 2 rfl (by decide) rF (N := 152) rF HS.out gF ?_; intro A152 w152 hs_; replace HS := am hs_; clear hs_) | (go_at_call 14; (with_reducible refine (cSame HS.out 60 [0, 1] [0, 1] 2 2 v16 B59 A152 c59 2 (HS.out.atU 21 _ _ rfl) (HS.out.atU 0 _ _ rfl)).mono ?_); rintro e w153 ⟨rfl, hs_⟩; replace HS := am hs_; clear hs_) | ((with_reducible refine gate_dst (N := 169) rfl ?_); (try (refine gate_guard (by rfl) ?_; dsimp only)); refine lit_u [1, 1] 2 rfl (by decide) rF (N := 169) rF HS.out gF ?_; intro A169 w169 hs_; replace HS := am hs_; clear hs_) | (go_at_call 14; (with_reducible refine (cSame HS.out 60 [1, 1] [1, 1] 2 2 v17 B79 A169 c79 2 (HS.out.atU 12 _ _ rfl) (HS.out.atU 0 _ _ rfl)).mono ?_); rintro e w170 ⟨rfl, hs_⟩; replace HS := am hs_; clear hs_) | ((with_reducible refine gate_dst (N := 173) rfl ?_); (try (refine gate_guard (by rfl) ?_; dsimp only)); refine lit_u [1, 0, 1] 3 rfl (by decide) rF (N := 173) rF HS.out gF ?_; intro A173 w173 hs_; replace HS := am hs_; clear hs_) | (go_at_call 24; (with_reducible refine (cIrred HS.out 60 [1, 0, 1] 7 true 3 (by decide) v18 A173 3 (HS.out.atU 0 _ _ rfl)).mono ?_); rintro e w174 ⟨rfl, hs_⟩; replace HS := am hs_; clear hs_) | ((with_reducible refine gate_dst (N := 177) rfl ?_); (try (refine gate_guard (by rfl) ?_; dsimp only)); refine lit_u [3] 1 rfl (by decide) rF (N := 177) rF HS.out gF ?_; intro A177 w177 hs_; replace HS := am hs_; clear hs_) | (go_at_call 24; (with_reducible refine (cIrred HS.out 60 [3] 7 false 1 (by decide) v19 A177 1 (HS.out.atU 0 _ _ rfl)).mono ?_); rintro e w178 ⟨rfl, hs_⟩; replace HS := am hs_; clear hs_) | (go_at_call 25; (with_reducible refine (cPrime HS.out 200 65521 true v20).mono ?_); rintro e w182 ⟨rfl, hs_⟩; replace HS := am hs_; clear hs_) | (go_at_call 25; (with_reducible refine (cPrime HS.out 200 65537 false v21).mono ?_); rintro e w185 ⟨rfl, hs_⟩; replace HS := am hs_; clear hs_) | (go_at_call 25; (with_reducible refine (cPrime HS.out 200 1 false v22).mono ?_); rintro e w189 ⟨rfl, hs_⟩; replace HS := am hs_; clear hs_) | (go_at_call 25; (with_reducible refine (cPrime HS.out 200 2 true v23).mono ?_); rintro e w193 ⟨rfl, hs_⟩; replace HS := am hs_; clear hs_) | ((with_reducible refine gate_dst (N := 196) rfl ?_); (try (refine gate_guard (by rfl) ?_; dsimp only)); refine lit_u [7] 1 rfl (by decide) rF (N := 196) rF HS.out gF ?_; intro A196 w196 hs_; replace HS := am hs_; clear hs_) | (go_at_call 26; (with_reducible refine (cRight HS.out 60 [7] 7 false 1 v24 A196 1 (HS.out.atU 0 _ _ rfl)).mono ?_); rintro e w197 ⟨rfl, hs_⟩; replace HS := am hs_; clear hs_) | ((with_reducible refine gate_dst (N := 201) rfl ?_); (try (refine gate_guard (by rfl) ?_; dsimp only)); refine lit_u [1, 0] 2 rfl (by decide) rF (N := 201) rF HS.out gF ?_; intro A201 w201 hs_; replace HS := am hs_; clear hs_) | (go_at_call 26; (with_reducible refine (cRight HS.out 60 [1, 0] 7 false 2 v25 A201 2 (HS.out.atU 0 _ _ rfl)).mono ?_); rintro e w202 ⟨rfl, hs_⟩; replace HS := am hs_; clear hs_) | (go_at_call 26; (with_reducible refine (cRight HS.out 60 [] 7 true 0 v26 none 0 (CV_nil _)).mono ?_); rintro e w206 ⟨rfl, hs_⟩; replace HS := am hs_; clear hs_) | (go_at_call 28; (with_reducible refine (cRefOf HS.out 60 (-1) true [1] 1 rfl v27).mono ?_); rintro e w209 ⟨B209, c209, rfl, hs_⟩; replace HS := am hs_; clear hs_) | (go_at_call 28; (with_reducible refine (cRefOf HS.out 60 9 false [9] 1 rfl v28).mono ?_); rintro e w210 ⟨B210, c210, rfl, hs_⟩; replace HS := am hs_; clear hs_) | (go_at_call 28; (with_reducible refine (cRefOf HS.out 60 14 false [14] 1 rfl v29).mono ?_); rintro e w211 ⟨B211, c211, rfl, hs_⟩; replace HS := am hs_; clear hs_) | ((with_reducible refine gate_dst (N := 212) rfl ?_); (try (refine gate_guard (by rfl) ?_; dsimp only)); refine lit_i [⟨true, [1]⟩, ⟨false, [9]⟩, ⟨false, [14]⟩] 3 [.bool true, .slice B209 1 c209, .bool false, .slice B210 1 c210, .bool false, .slice B211 1 c211] rfl (by decide) ?hg (N := 212) ?hd HS.out ?hcs ?hr ?_; (case hd => rfl); (case hg => rfl); (case hcs => exact (Reps.two (K56_of (HS.out.atU 2 _ _ rfl) true) (Reps.two (K56_of (HS.out.atU 1 _ _ rfl) false) (Reps.two (K56_of (HS.out.atU 0 _ _ rfl) false) (Reps.none _ _))))); (case hr => first | (go_simp; done) | (go_simp; rfl)); intro A212 w212 hs_; replace HS := am hs_; clear hs_) | (go_at_call 27; (with_reducible refine (cReduce7 HS.out A212 3 (HS.out.atI 0 _ _ rfl)).mono ?_); rintro e w213 ⟨B213, c213, rfl, hs_⟩; replace HS := am hs_; clear hs_) | ((with_reducible refine gate_dst (N := 214) rfl ?_); (try (refine gate_guard (by rfl) ?_; dsimp only)); refine lit_u [6, 2] 2 rfl (by decide) rF (N := 214) rF HS.out gF ?_; intro A214 w214 hs_; replace HS := am hs_; clear hs_) | (go_at_call 14; (with_reducible refine (cSame HS.out 60 [6, 2] [6, 2] 2 2 v31 B213 A214 c213 2 (HS.out.atU 1 _ _ rfl) (HS.out.atU 0 _ _ rfl)).mono ?_); rintro e w215 ⟨rfl, hs_⟩; replace HS := am hs_; clear hs_))
 go_ret
 exact ⟨by first | rfl | (simp; done), HS.out.b⟩
section calls
variable {w0 w : World} {L : List (Value × Row7)}
theorem lHead (hS : LS w0 w L) : Calls Tryd.prog 7 #[] w fun e w' => e = .returned (.bool true) ∧ LS w0 w' L :=
 (head_calls w hS.g).mono (fun e w' ⟨he, hb⟩ => ⟨he, hS.below hb⟩)
theorem lOf (hS : LS w0 w L) (k : Nat) (x r : Int) (hf : zigguratref14_Of.f k x = some r) : Calls Tryd.prog 8 #[.int .u32 x] w fun e w' => e = .returned (.int .u32 r) ∧ LS w0 w' L :=
 (zigguratref14_Of.calls k x r w hf).mono (fun e w' ⟨he, hd⟩ => ⟨he, hS.drawn hd⟩)
theorem gR {f : Nat} {args : Array Value} {base : Nat} {ok : Nat → Prop} {r : List Int} (hS : LS w0 w L) (h : Calls Tryd.prog f args w fun e w' => ∃ v0_ : Value, e = .returned v0_ ∧ Kd.R (Kd.int .u32) 22 w' base ok v0_ r ∧ Below w.heap.size w w') :
   Calls Tryd.prog f args w fun e w' => ∃ A c, e = .returned (.slice A r.length c) ∧ LS w0 w' ((.slice A r.length c, .u r) :: L) := by
 refine h.mono ?_
 rintro e w' ⟨v0, rfl, h0, hb⟩
 obtain ⟨A1, c1, rfl, hl1, hC1⟩ := Kd.R_reads h0
 exact ⟨A1, c1, rfl, hS.more hb (r := .u r) ⟨A1, c1, rfl, hl1, hC1⟩⟩
theorem gV {f : Nat} {args : Array Value} {base : Nat} {ok : Nat → Prop} {r : List Int} (hS : LS w0 w L) (h : Calls Tryd.prog f args w fun e w' => ∃ v0_ : Value, e = .returned v0_ ∧ Kd.V (Kd.int .u32) 22 w' base ok v0_ r ∧ Below w.heap.size w w') :
   Calls Tryd.prog f args w fun e w' => ∃ A c, e = .returned (.slice A r.length c) ∧ LS w0 w' ((.slice A r.length c, .u r) :: L) := by
 refine h.mono ?_
 rintro e w' ⟨v0, rfl, h0, hb⟩
 obtain ⟨A1, c1, rfl, hl1, hC1⟩ := CV_of h0
 exact ⟨A1, c1, rfl, hS.more hb (r := .u r) ⟨A1, c1, rfl, hl1, hC1⟩⟩
theorem gC {f : Nat} {args : Array Value} {r : List Int} (hS : LS w0 w L) (h : Calls Tryd.prog f args w fun e w' => ∃ v0_ : Value, e = .returned v0_ ∧ CV w' v0_ r ∧ Below w.heap.size w w') :
   Calls Tryd.prog f args w fun e w' => ∃ A c, e = .returned (.slice A r.length c) ∧ LS w0 w' ((.slice A r.length c, .u r) :: L) := by
 refine h.mono ?_
 rintro e w' ⟨v0, rfl, ⟨A1, c1, rfl, hl1, hC1⟩, hb⟩
 exact ⟨A1, c1, rfl, hS.more hb (r := .u r) ⟨A1, c1, rfl, hl1, hC1⟩⟩
theorem lMade (hS : LS w0 w L) (k : Nat) (l : List Int) (p m : Int) (r : List Int) (hf : zigguratref14_Made.f k l p m = some r) (A : Option Addr) (c : Nat) (hm : CV w (.slice A l.length c) l) :
   Calls Tryd.prog 9 #[.slice A l.length c, .int .u32 p, .int .i64 m] w fun e w' => ∃ A1 c1, e = .returned (.slice A1 r.length c1) ∧ LS w0 w' ((.slice A1 r.length c1, .u r) :: L) :=
 gR hS (zigguratref14_Made.calls k A c l p m r w hm.C.2.2 hm.C.2.1 hf)
theorem lMul (hS : LS w0 w L) (k : Nat) (l m : List Int) (p : Int) (r : List Int) (hf : modp_Mul.f k l m p = some r) (A B : Option Addr) (c d : Nat) (hm : CV w (.slice A l.length c) l) (hm2 : CV w (.slice B m.length d) m) :
   Calls Tryd.prog 11 #[.slice A l.length c, .slice B m.length d, .int .u32 p] w fun e w' => ∃ A1 c1, e = .returned (.slice A1 r.length c1) ∧ LS w0 w' ((.slice A1 r.length c1, .u r) :: L) :=
 gV hS (modp_Mul.calls k A c l B d m p r w hm.C.2.2 hm.C.2.1 hm2.C.2.2 hm2.C.2.1 hf)
theorem lMul17 (hS : LS w0 w L) (k : Nat) (l m : List Int) (p : Int) (r : List Int) (hf : zigguratref14_Mul.f k l m p = some r) (A B : Option Addr) (c d : Nat) (hm : CV w (.slice A l.length c) l) (hm2 : CV w (.slice B m.length d) m) :
   Calls Tryd.prog 17 #[.slice A l.length c, .slice B m.length d, .int .u32 p] w fun e w' => ∃ A1 c1, e = .returned (.slice A1 r.length c1) ∧ LS w0 w' ((.slice A1 r.length c1, .u r) :: L) :=
 gR hS (zigguratref14_Mul.calls k A c l B d m p r w hm.C.2.2 hm.C.2.1 hm2.C.2.2 hm2.C.2.1 hf)
theorem lMonic (hS : LS w0 w L) (k : Nat) (l : List Int) (p : Int) (r : List Int) (hf : zigguratref14_Monic.f k l p = some r) (A : Option Addr) (c : Nat) (hm : CV w (.slice A l.length c) l) :
   Calls Tryd.prog 18 #[.slice A l.length c, .int .u32 p] w fun e w' => ∃ A1 c1, e = .returned (.slice A1 r.length c1) ∧ LS w0 w' ((.slice A1 r.length c1, .u r) :: L) :=
 gC hS (zigguratref14_Monic.calls k A c l p r w hm.C.2.2 hm.C.2.1 hf)
theorem lRight (hS : LS w0 w L) (k : Nat) (l : List Int) (p : Int) (r : Bool) (hf : zigguratref14_Right.f k l p = some r) (A : Option Addr) (c : Nat) (hm : CV w (.slice A l.length c) l) :
   Calls Tryd.prog 13 #[.slice A l.length c, .int .u32 p] w fun e w' => e = .returned (.bool r) ∧ LS w0 w' L :=
 (zigguratref14_Right.calls k A c l p r w hm.C.2.2 hm.C.2.1 hf).mono (fun e w' ⟨he, hd⟩ => ⟨he, hS.drawn hd⟩)
theorem lSame (hS : LS w0 w L) (k : Nat) (l m : List Int) (hf : zigguratref14_Same.f k l m = some true) (A B : Option Addr) (c d : Nat) (hm : CV w (.slice A l.length c) l) (hm2 : CV w (.slice B m.length d) m) :
   Calls Tryd.prog 14 #[.slice A l.length c, .slice B m.length d] w fun e w' => e = .returned (.bool true) ∧ LS w0 w' L :=
 cSame hS k l m _ _ hf A B c d hm hm2
theorem lDivMod (hS : LS w0 w L) (k : Nat) (l m : List Int) (p : Int) (q r : List Int) (er : Int) (hf : modp_DivMod.f k l m p = some (q, r, er)) (A B : Option Addr) (c d : Nat) (hm : CV w (.slice A l.length c) l) (hm2 : CV w (.slice B m.length d) m) :
   Calls Tryd.prog 15 #[.slice A l.length c, .slice B m.length d, .int .u32 p] w fun e w' => ∃ A1 c1 A2 c2, e = .returned (.tuple #[.slice A1 q.length c1, .slice A2 r.length c2, .int .i64 er]) ∧ LS w0 w' ((.slice A1 q.length c1, .u q) :: (.slice A2 r.length c2, .u r) :: L) :=
 cDivMod hS k l m p q r er _ _ _ _ rfl rfl hf A B c d hm hm2
theorem lGcd (hS : LS w0 w L) (k : Nat) (l m : List Int) (p : Int) (r : List Int) (hf : modp_Gcd.f k l m p = some r) (A B : Option Addr) (c d : Nat) (hm : CV w (.slice A l.length c) l) (hm2 : CV w (.slice B m.length d) m) :
   Calls Tryd.prog 16 #[.slice A l.length c, .slice B m.length d, .int .u32 p] w fun e w' => ∃ A1 c1, e = .returned (.slice A1 r.length c1) ∧ LS w0 w' ((.slice A1 r.length c1, .u r) :: L) :=
 cGcd hS k l m p r _ _ _ rfl hf A B c d hm hm2
end calls
def L5.T3 : Bool × List (List Nat × List Nat) := (true, [([], []), ([0], [0]), ([], []), ([1, 2], [1, 2]), ([], []), ([4], [4]), ([], []), ([5, 6, 3], [5, 6]), ([], []), ([8], [8]), ([], []), ([9, 10, 7], [9, 10]), ([3, 11, 0, 1, 2, 3], [3]), ([7, 12, 0, 1, 2, 3, 4, 5, 6, 7, 12], [7]), ([11, 13, 0, 1, 2, 3, 4, 5, 6, 7, 8, 9, 10, 11, 12, 13], [11])])
def L5.B3 : List Nat := [0, 1, 0, 7, 0, 16, 0, 127, 0, 256, 0, 2047, 4095, 8191, 16383]
theorem L5.tab3 : rtab .any (opsOf Tryd.f5 3) = L5.T3 := by kernel_rfl
theorem L5.bits3 : waitsOk L5.T3.2 L5.B3 = true := by kernel_rfl
theorem gcd_walk0 (k : Nat) (a0 : Int) (A1 A2 A3 : Option Addr) (c1 c2 c3 : Nat) (l1 l2 l3 : List Int) (p : Int) (a b c g : List Int) (hof : zigguratref14_Of.f k a0 = some p) (ha : zigguratref14_Made.f k l1 p 20 = some a) (hb : zigguratref14_Made.f k l2 p 20 = some b) (hc : zigguratref14_Made.f k l3 p 20 = some c) (hg : modp_Gcd.f k a b p = some g) (e0 : wrap64 ((a.length : Int) + (b.length : Int)) = 0) (e1 : g.length = 0) (w : World) (hG : GW w) (h1 : CV w (.slice A1 l1.length c1) l1) (h2 : CV w (.slice A2 l2.length c2) l2) (h3 : CV w (.slice A3 l3.length c3) l3) : Calls Tryd.prog 5 #[.agg #[.int .u32 a0, .slice A1 l1.length c1, .slice A2 l2.length c2, .slice A3 l3.length c3]] w fun e w' => e = .returned (.bool true) ∧ Below w.heap.size w w' := by
 have HS : Aside0 (LS w w [(.slice A1 l1.length c1, .u l1), (.slice A2 l2.length c2, .u l2), (.slice A3 l3.length c3, .u l3)]) := ⟨⟨Below.refl _ _, hG, fun x hx => by
   simp only [List.mem_cons, List.not_mem_nil, or_false] at hx
   rcases hx with rfl | rfl | rfl
   · exact h1
   · exact h2
   · exact h3⟩⟩
 have hu25 := Tryd.underlying25
 have e0b : (wrap64 ((a.length : Int) + (b.length : Int)) == 0) = true := beq_iff_eq.mpr e0
 have e1b : ((g.length : Int) == 0) = true := beq_iff_eq.mpr (by omega)
 clear e0 e1
 clear hG h1 h2 h3
 go_enter Tryd.func5, Tryd.ntmps5
 (try simp only [List.append])
 go_wp2_with (first | ((with_reducible refine gate_dst (N := 1) rfl ?_); refine lit_b #[.int .u32 a0, .slice A1 l1.length c1, .slice A2 l2.length c2, .slice A3 l3.length c3] 25 rF (N := 1) rF HS.out gF ?_; intro g1 w1 hs_; replace HS := am hs_; clear hs_) | ((with_reducible refine gate_callee (f := 7) rfl ?_); refine goesA (some 16) Tryd.func7 #[] ?_; (with_reducible refine (lHead HS.out).mono ?_); rintro e w16 ⟨rfl, hs_⟩; refine ⟨_, rfl, ?_⟩; replace HS := am hs_; clear hs_; (try clear hz0); have hz0 := HS.out.cell 0 _ _ _ rfl 0 _ rfl) | ((with_reducible refine gate_callee (f := 8) rfl ?_); refine goesA (some 19) Tryd.func8 #[.int .u32 a0] ?_; (with_reducible refine (lOf HS.out k _ _ hof).mono ?_); rintro e w19 ⟨rfl, hs_⟩; refine ⟨_, rfl, ?_⟩; (try clear hz0); replace HS := am hs_; clear hs_))
 have HS := am (HS.out.below (below_drew1 (Below.refl _ _)))
 refine start_ (n := 15) (S := fun w' => w'.cell? ⟨g1, 1, none⟩ = some (.slice A1 l1.length c1) ∧ w'.cell? ⟨g1, 2, none⟩ = some (.slice A2 l2.length c2) ∧ w'.cell? ⟨g1, 3, none⟩ = some (.slice A3 l3.length c3)) (ds := []) (bm 15 0) (by kernel_rfl) rfl rfl (⟨HS.out.cell 0 _ _ _ rfl 1 _ rfl, HS.out.cell 0 _ _ _ rfl 2 _ rfl, HS.out.cell 0 _ _ _ rfl 3 _ rfl⟩) (fun hHeld => ?_); refine with_tabW L5.tab3 L5.bits3 (fun HT_ HW_ => ?_)
 generalize w19.drew = wd3 at HS hHeld ⊢
 refine pureB (N := some 20) 0 (bm 15 1) ?_
 refine pureB (N := some 22) 2 (bm 15 5) ?_
 refine pureB (N := some 24) 4 (bm 15 21) ?_
 refine pureB (N := some 26) 6 (bm 15 85) ?_
 refine pureB (N := some 28) 8 (bm 15 341) ?_
 refine pureB (N := some 30) 10 (bm 15 1365) ?_
 refine takeB3 (N := some 21) 1 (bm 15 1367) hHeld ?_
 refine takeB3 (N := some 25) 5 (bm 15 1399) hHeld ?_
 refine takeB3 (N := some 29) 9 (bm 15 1911) hHeld ?_
 refine one_ (i := 3) (N := some 23) (bm 15 1919) rfl rfl (one_of HT_.out (by kernel_rfl)) (by decide) (fun K hK => ?_)
 refine goes_ Tryd.func9 (by kernel_rfl) rfl #[.slice A1 l1.length c1, .int .u32 p, .int .i64 20] (by rfl) rfl rfl aM ?_
 (with_reducible refine (lMade HS.out k _ _ _ _ ha A1 c1 (HS.out.atU 1 _ _ rfl)).mono ?_)
 rintro e w23 ⟨B23, c23, rfl, hs_⟩
 refine ⟨_, rfl, ?_⟩
 replace HS := am hs_
 clear hs_
 refine hK.out _ _ (⟨HS.out.cell 1 _ _ _ rfl 1 _ rfl, HS.out.cell 1 _ _ _ rfl 2 _ rfl, HS.out.cell 1 _ _ _ rfl 3 _ rfl⟩) (fun hHeld => ?_)
 clear hK K
 refine norm_ (a' := ?_) ?_ ?_
 rotate_left
 · show Act.put _ (some 23) _ = _; exact actp
 refine one_ (i := 7) (N := some 27) (bm 15 2047) rfl rfl (one_of HT_.out (by kernel_rfl)) (by decide) (fun K hK => ?_)
 refine goes_ Tryd.func9 (by kernel_rfl) rfl #[.slice A2 l2.length c2, .int .u32 p, .int .i64 20] (by rfl) rfl rfl aM ?_
 (with_reducible refine (lMade HS.out k _ _ _ _ hb A2 c2 (HS.out.atU 3 _ _ rfl)).mono ?_)
 rintro e w27 ⟨B27, c27, rfl, hs_⟩
 refine ⟨_, rfl, ?_⟩
 replace HS := am hs_
 clear hs_
 refine hK.out _ _ (⟨HS.out.cell 2 _ _ _ rfl 1 _ rfl, HS.out.cell 2 _ _ _ rfl 2 _ rfl, HS.out.cell 2 _ _ _ rfl 3 _ rfl⟩) (fun hHeld => ?_)
 clear hK K
 refine norm_ (a' := ?_) ?_ ?_
 rotate_left
 · show Act.put _ (some 27) _ = _; exact actp
 refine one_ (i := 11) (N := some 31) (bm 15 4095) rfl rfl (one_of HT_.out (by kernel_rfl)) (by decide) (fun K hK => ?_)
 refine goes_ Tryd.func9 (by kernel_rfl) rfl #[.slice A3 l3.length c3, .int .u32 p, .int .i64 20] (by rfl) rfl rfl aM ?_
 (with_reducible refine (lMade HS.out k _ _ _ _ hc A3 c3 (HS.out.atU 5 _ _ rfl)).mono ?_)
 rintro e w31 ⟨B31, c31, rfl, hs_⟩
 refine ⟨_, rfl, ?_⟩
 replace HS := am hs_
 clear hs_
 refine hK.out _ _ (⟨HS.out.cell 3 _ _ _ rfl 1 _ rfl, HS.out.cell 3 _ _ _ rfl 2 _ rfl, HS.out.cell 3 _ _ _ rfl 3 _ rfl⟩) (fun hHeld => ?_)
 clear hK K
 refine norm_ (a' := ?_) ?_ ?_
 rotate_left
 · show Act.put _ (some 31) _ = _; exact actp
 refine pureB (N := some 5) 12 (bm 15 8191) ?_
 refine pureB (N := some 6) 13 (bm 15 16383) ?_
 refine pureB (N := some 7) 14 (bm 15 32767) ?_
 refine done_ (done_of HT_.out (by kernel_rfl)) ?_
 clear HT_ HW_ hHeld
 go_wp2_with (first | ((with_reducible refine gate_callee (f := 16) rfl ?_); refine goesA (some 35) Tryd.func16 #[.slice B23 a.length c23, .slice B27 b.length c27, .int .u32 p] ?_; (with_reducible refine (lGcd HS.out k _ _ _ _ hg B23 B27 c23 c27 (HS.out.atU 2 _ _ rfl) (HS.out.atU 1 _ _ rfl)).mono ?_); rintro e w35 ⟨B35, c35, rfl, hs_⟩; refine ⟨_, rfl, ?_⟩; replace HS := am hs_; clear hs_))
 go_ret
 exact ⟨eqS, HS.out.b⟩
theorem gcd_walk1 (k : Nat) (a0 : Int) (A1 A2 A3 : Option Addr) (c1 c2 c3 : Nat) (l1 l2 l3 : List Int) (p : Int) (a b c g : List Int) (hof : zigguratref14_Of.f k a0 = some p) (ha : zigguratref14_Made.f k l1 p 20 = some a) (hb : zigguratref14_Made.f k l2 p 20 = some b) (hc : zigguratref14_Made.f k l3 p 20 = some c) (hg : modp_Gcd.f k a b p = some g) (e0 : ¬ wrap64 ((a.length : Int) + (b.length : Int)) = 0) (e1 : 0 < g.length) (e2 : g.length < 1000) (e3 : rd g (wrap64 ((g.length : Int) - 1)) = 1) (hgr : zigguratref14_Right.f k g p = some true) (q s gx gy m1 m2 more mc h : List Int) (hd1 : modp_DivMod.f k a g p = some (q, [], 0)) (hd2 : modp_DivMod.f k b g p = some (s, [], 0)) (hg1 : modp_Gcd.f k q s p = some gx) (hs1 : zigguratref14_Same.f k gx [1] = some true) (hg2 : modp_Gcd.f k b a p = some gy) (hs2 : zigguratref14_Same.f k gy g = some true) (hm1 : modp_Mul.f k a c p = some m1) (hm2 : modp_Mul.f k b c p = some m2) (hgm : modp_Gcd.f k m1 m2 p = some more) (hmc : zigguratref14_Monic.f k c p = some mc) (hh : zigguratref14_Mul.f k g mc p = some h) (hs3 : zigguratref14_Same.f k more h = some true) (w : World) (hG : GW w) (h1 : CV w (.slice A1 l1.length c1) l1) (h2 : CV w (.slice A2 l2.length c2) l2) (h3 : CV w (.slice A3 l3.length c3) l3) : Calls Tryd.prog 5 #[.agg #[.int .u32 a0, .slice A1 l1.length c1, .slice A2 l2.length c2, .slice A3 l3.length c3]] w fun e w' => e = .returned (.bool true) ∧ Below w.heap.size w w' := by
 have HS : Aside0 (LS w w [(.slice A1 l1.length c1, .u l1), (.slice A2 l2.length c2, .u l2), (.slice A3 l3.length c3, .u l3)]) := ⟨⟨Below.refl _ _, hG, fun x hx => by
   simp only [List.mem_cons, List.not_mem_nil, or_false] at hx
   rcases hx with rfl | rfl | rfl
   · exact h1
   · exact h2
   · exact h3⟩⟩
 have hu25 := Tryd.underlying25
 have e0b : (wrap64 ((a.length : Int) + (b.length : Int)) == 0) = false := beq_eq_false_iff_ne.mpr e0
 have e1b : ((g.length : Int) == 0) = false := beq_eq_false_iff_ne.mpr (by omega)
 have e1c : ¬ g = [] := fun h_ => by rw [h_] at e1; exact absurd e1 (by decide)
 have pg : 0 ≤ wrap64 ((g.length : Int) - 1) := by unfold wrap64; omega
 have qg : wrap64 ((g.length : Int) - 1) < (g.length : Int) := by unfold wrap64; omega
 have PG := am pg
 have QG := am qg
 have pg1 : decide (0 ≤ wrap64 ((g.length : Int) - 1)) = true := decide_eq_true pg
 have qg1 : decide (wrap64 ((g.length : Int) - 1) < (g.length : Int)) = true := decide_eq_true qg
 replace pg := eq_true pg
 replace qg := eq_true qg
 clear e0 e1 e2
 clear hG h1 h2 h3
 go_enter Tryd.func5, Tryd.ntmps5
 (try simp only [List.append])
 go_wp2_with (first | ((with_reducible refine gate_dst (N := 1) rfl ?_); refine lit_b #[.int .u32 a0, .slice A1 l1.length c1, .slice A2 l2.length c2, .slice A3 l3.length c3] 25 rF (N := 1) rF HS.out gF ?_; intro g1 w1 hs_; replace HS := am hs_; clear hs_) | ((with_reducible refine gate_callee (f := 7) rfl ?_); refine goesA (some 16) Tryd.func7 #[] ?_; (with_reducible refine (lHead HS.out).mono ?_); rintro e w16 ⟨rfl, hs_⟩; refine ⟨_, rfl, ?_⟩; replace HS := am hs_; clear hs_; (try clear hz0); have hz0 := HS.out.cell 0 _ _ _ rfl 0 _ rfl) | ((with_reducible refine gate_callee (f := 8) rfl ?_); refine goesA (some 19) Tryd.func8 #[.int .u32 a0] ?_; (with_reducible refine (lOf HS.out k _ _ hof).mono ?_); rintro e w19 ⟨rfl, hs_⟩; refine ⟨_, rfl, ?_⟩; (try clear hz0); replace HS := am hs_; clear hs_))
 have HS := am (HS.out.below (below_drew1 (Below.refl _ _)))
 refine start_ (n := 15) (S := fun w' => w'.cell? ⟨g1, 1, none⟩ = some (.slice A1 l1.length c1) ∧ w'.cell? ⟨g1, 2, none⟩ = some (.slice A2 l2.length c2) ∧ w'.cell? ⟨g1, 3, none⟩ = some (.slice A3 l3.length c3)) (ds := []) (bm 15 0) (by kernel_rfl) rfl rfl (⟨HS.out.cell 0 _ _ _ rfl 1 _ rfl, HS.out.cell 0 _ _ _ rfl 2 _ rfl, HS.out.cell 0 _ _ _ rfl 3 _ rfl⟩) (fun hHeld => ?_); refine with_tabW L5.tab3 L5.bits3 (fun HT_ HW_ => ?_)
 generalize w19.drew = wd3 at HS hHeld ⊢
 refine pureB (N := some 20) 0 (bm 15 1) ?_
 refine pureB (N := some 22) 2 (bm 15 5) ?_
 refine pureB (N := some 24) 4 (bm 15 21) ?_
 refine pureB (N := some 26) 6 (bm 15 85) ?_
 refine pureB (N := some 28) 8 (bm 15 341) ?_
 refine pureB (N := some 30) 10 (bm 15 1365) ?_
 refine takeB3 (N := some 21) 1 (bm 15 1367) hHeld ?_
 refine takeB3 (N := some 25) 5 (bm 15 1399) hHeld ?_
 refine takeB3 (N := some 29) 9 (bm 15 1911) hHeld ?_
 refine one_ (i := 3) (N := some 23) (bm 15 1919) rfl rfl (one_of HT_.out (by kernel_rfl)) (by decide) (fun K hK => ?_)
 refine goes_ Tryd.func9 (by kernel_rfl) rfl #[.slice A1 l1.length c1, .int .u32 p, .int .i64 20] (by rfl) rfl rfl aM ?_
 (with_reducible refine (lMade HS.out k _ _ _ _ ha A1 c1 (HS.out.atU 1 _ _ rfl)).mono ?_)
 rintro e w23 ⟨B23, c23, rfl, hs_⟩
 refine ⟨_, rfl, ?_⟩
 replace HS := am hs_
 clear hs_
 refine hK.out _ _ (⟨HS.out.cell 1 _ _ _ rfl 1 _ rfl, HS.out.cell 1 _ _ _ rfl 2 _ rfl, HS.out.cell 1 _ _ _ rfl 3 _ rfl⟩) (fun hHeld => ?_)
 clear hK K
 refine norm_ (a' := ?_) ?_ ?_
 rotate_left
 · show Act.put _ (some 23) _ = _; exact actp
 refine one_ (i := 7) (N := some 27) (bm 15 2047) rfl rfl (one_of HT_.out (by kernel_rfl)) (by decide) (fun K hK => ?_)
 refine goes_ Tryd.func9 (by kernel_rfl) rfl #[.slice A2 l2.length c2, .int .u32 p, .int .i64 20] (by rfl) rfl rfl aM ?_
 (with_reducible refine (lMade HS.out k _ _ _ _ hb A2 c2 (HS.out.atU 3 _ _ rfl)).mono ?_)
 rintro e w27 ⟨B27, c27, rfl, hs_⟩
 refine ⟨_, rfl, ?_⟩
 replace HS := am hs_
 clear hs_
 refine hK.out _ _ (⟨HS.out.cell 2 _ _ _ rfl 1 _ rfl, HS.out.cell 2 _ _ _ rfl 2 _ rfl, HS.out.cell 2 _ _ _ rfl 3 _ rfl⟩) (fun hHeld => ?_)
 clear hK K
 refine norm_ (a' := ?_) ?_ ?_
 rotate_left
 · show Act.put _ (some 27) _ = _; exact actp
 refine one_ (i := 11) (N := some 31) (bm 15 4095) rfl rfl (one_of HT_.out (by kernel_rfl)) (by decide) (fun K hK => ?_)
 refine goes_ Tryd.func9 (by kernel_rfl) rfl #[.slice A3 l3.length c3, .int .u32 p, .int .i64 20] (by rfl) rfl rfl aM ?_
 (with_reducible refine (lMade HS.out k _ _ _ _ hc A3 c3 (HS.out.atU 5 _ _ rfl)).mono ?_)
 rintro e w31 ⟨B31, c31, rfl, hs_⟩
 refine ⟨_, rfl, ?_⟩
 replace HS := am hs_
 clear hs_
 refine hK.out _ _ (⟨HS.out.cell 3 _ _ _ rfl 1 _ rfl, HS.out.cell 3 _ _ _ rfl 2 _ rfl, HS.out.cell 3 _ _ _ rfl 3 _ rfl⟩) (fun hHeld => ?_)
 clear hK K
 refine norm_ (a' := ?_) ?_ ?_
 rotate_left
 · show Act.put _ (some 31) _ = _; exact actp
 refine pureB (N := some 5) 12 (bm 15 8191) ?_
 refine pureB (N := some 6) 13 (bm 15 16383) ?_
 refine pureB (N := some 7) 14 (bm 15 32767) ?_
 refine done_ (done_of HT_.out (by kernel_rfl)) ?_
 clear HT_ HW_ hHeld
 go_wp2_with (first | ((with_reducible refine gate_callee (f := 16) rfl ?_); refine goesA (some 35) Tryd.func16 #[.slice B23 a.length c23, .slice B27 b.length c27, .int .u32 p] ?_; (with_reducible refine (lGcd HS.out k _ _ _ _ hg B23 B27 c23 c27 (HS.out.atU 2 _ _ rfl) (HS.out.atU 1 _ _ rfl)).mono ?_); rintro e w35 ⟨B35, c35, rfl, hs_⟩; refine ⟨_, rfl, ?_⟩; replace HS := am hs_; clear hs_; obtain ⟨ad_, ea_, hx_⟩ := Kd.at_int (HS.out.atU 0 _ _ rfl).C.2.2 (wrap64 ((g.length : Int) - 1)) PG.out QG.out; rw [e3] at hx_; cases ea_) | (go_at_call 13; (with_reducible refine (lRight HS.out k _ _ _ hgr (some ad_) c35 (HS.out.atU 0 _ _ rfl)).mono ?_); rintro e w63 ⟨rfl, hs_⟩; (try clear hx_); replace HS := am hs_; clear hs_) | ((with_reducible refine gate_callee (f := 15) rfl ?_); refine goesA (some 70) Tryd.func15 #[.slice B23 a.length c23, .slice (some ad_) g.length c35, .int .u32 p] ?_; (with_reducible refine (lDivMod HS.out k _ _ _ _ _ _ hd1 B23 (some ad_) c23 c35 (HS.out.atU 3 _ _ rfl) (HS.out.atU 0 _ _ rfl)).mono ?_); rintro e w70 ⟨B70, c70, D70, d70, rfl, hs_⟩; refine ⟨_, rfl, ?_⟩; replace HS := am hs_; clear hs_) | ((with_reducible refine gate_callee (f := 15) rfl ?_); refine goesA (some 78) Tryd.func15 #[.slice B27 b.length c27, .slice (some ad_) g.length c35, .int .u32 p] ?_; (with_reducible refine (lDivMod HS.out k _ _ _ _ _ _ hd2 B27 (some ad_) c27 c35 (HS.out.atU 4 _ _ rfl) (HS.out.atU 2 _ _ rfl)).mono ?_); rintro e w78 ⟨B78, c78, D78, d78, rfl, hs_⟩; refine ⟨_, rfl, ?_⟩; replace HS := am hs_; clear hs_) | (go_at_call 16; (with_reducible refine (lGcd HS.out k _ _ _ _ hg1 B70 B78 c70 c78 (HS.out.atU 2 _ _ rfl) (HS.out.atU 0 _ _ rfl)).mono ?_); rintro e w92 ⟨B92, c92, rfl, hs_⟩; replace HS := am hs_; clear hs_) | ((with_reducible refine gate_dst (N := 93) rfl ?_); (try (refine gate_guard (by rfl) ?_; dsimp only)); refine lit_u [1] 1 rfl (by decide) rF (N := 93) rF HS.out gF ?_; intro A93 w93 hs_; replace HS := am hs_; clear hs_) | (go_at_call 14; (with_reducible refine (cSame HS.out k _ _ gx.length 1 hs1 B92 A93 c92 1 (HS.out.atU 1 _ _ rfl) (HS.out.atU 0 _ _ rfl)).mono ?_); rintro e w94 ⟨rfl, hs_⟩; replace HS := am hs_; clear hs_) | (go_at_call 16; (with_reducible refine (lGcd HS.out k _ _ _ _ hg2 B27 B23 c27 c23 (HS.out.atU 8 _ _ rfl) (HS.out.atU 9 _ _ rfl)).mono ?_); rintro e w101 ⟨B101, c101, rfl, hs_⟩; replace HS := am hs_; clear hs_) | (go_at_call 14; (with_reducible refine (lSame HS.out k _ _ hs2 B101 (some ad_) c101 c35 (HS.out.atU 0 _ _ rfl) (HS.out.atU 7 _ _ rfl)).mono ?_); rintro e w103 ⟨rfl, hs_⟩; replace HS := am hs_; clear hs_) | ((with_reducible refine gate_callee (f := 11) rfl ?_); refine goesA (some 109) Tryd.func11 #[.slice B23 a.length c23, .slice B31 c.length c31, .int .u32 p] ?_; (with_reducible refine (lMul HS.out k _ _ _ _ hm1 B23 B31 c23 c31 (HS.out.atU 10 _ _ rfl) (HS.out.atU 8 _ _ rfl)).mono ?_); rintro e w109 ⟨B109, c109, rfl, hs_⟩; refine ⟨_, rfl, ?_⟩; replace HS := am hs_; clear hs_) | ((with_reducible refine gate_callee (f := 11) rfl ?_); refine goesA (some 113) Tryd.func11 #[.slice B27 b.length c27, .slice B31 c.length c31, .int .u32 p] ?_; (with_reducible refine (lMul HS.out k _ _ _ _ hm2 B27 B31 c27 c31 (HS.out.atU 10 _ _ rfl) (HS.out.atU 9 _ _ rfl)).mono ?_); rintro e w113 ⟨B113, c113, rfl, hs_⟩; refine ⟨_, rfl, ?_⟩; replace HS := am hs_; clear hs_) | ((with_reducible refine gate_callee (f := 16) rfl ?_); refine goesA (some 115) Tryd.func16 #[.slice B109 m1.length c109, .slice B113 m2.length c113, .int .u32 p] ?_; (with_reducible refine (lGcd HS.out k _ _ _ _ hgm B109 B113 c109 c113 (HS.out.atU 1 _ _ rfl) (HS.out.atU 0 _ _ rfl)).mono ?_); rintro e w115 ⟨B115, c115, rfl, hs_⟩; refine ⟨_, rfl, ?_⟩; replace HS := am hs_; clear hs_) | ((with_reducible refine gate_callee (f := 18) rfl ?_); refine goesA (some 120) Tryd.func18 #[.slice B31 c.length c31, .int .u32 p] ?_; (with_reducible refine (lMonic HS.out k _ _ _ hmc B31 c31 (HS.out.atU 11 _ _ rfl)).mono ?_); rintro e w120 ⟨B120, c120, rfl, hs_⟩; refine ⟨_, rfl, ?_⟩; replace HS := am hs_; clear hs_) | ((with_reducible refine gate_callee (f := 17) rfl ?_); refine goesA (some 122) Tryd.func17 #[.slice (some ad_) g.length c35, .slice B120 mc.length c120, .int .u32 p] ?_; (with_reducible refine (lMul17 HS.out k _ _ _ _ hh (some ad_) B120 c35 c120 (HS.out.atU 11 _ _ rfl) (HS.out.atU 0 _ _ rfl)).mono ?_); rintro e w122 ⟨B122, c122, rfl, hs_⟩; refine ⟨_, rfl, ?_⟩; replace HS := am hs_; clear hs_) | ((with_reducible refine gate_callee (f := 14) rfl ?_); refine goesA (some 123) Tryd.func14 #[.slice B115 more.length c115, .slice B122 h.length c122] ?_; (with_reducible refine (lSame HS.out k _ _ hs3 B115 B122 c115 c122 (HS.out.atU 2 _ _ rfl) (HS.out.atU 0 _ _ rfl)).mono ?_); rintro e w123 ⟨rfl, hs_⟩; refine ⟨_, rfl, ?_⟩; replace HS := am hs_; clear hs_))
 go_ret
 exact ⟨eqS, HS.out.b⟩
end Go.Proofs.YtofbpjpdahcghaaDoor.Q
namespace Go.Proofs.YtofbpjpdahcghaaDoor.Q
open Go.RowKit Go.Proofs.YtofbpjpdahcghaaDoorW.PrintWords
set_option linter.unusedVariables false
theorem right_one {p : Nat} (hpp : isPrime p) : RP p [1] := by
 have := hpp.1
 exact ⟨fun x hx => by simp at hx; omega, .inr ⟨[], 1, rfl, by decide⟩⟩
theorem exact_div {p : Nat} (hpp : isPrime p) (hp2 : p < 65536) {a g : List Int} (ha : RP p a) (hg : RP p g) (la : a.length < 1000) (lg : g.length < 1000) (l0 : 0 < g.length) (hd : ∃ F, PF F ∧ Cg p (valL a) (fun x => F x * valL g x)) :
   ∃ q, RP p q ∧ q.length ≤ a.length ∧ Cg p (valL a) (fun x => valL q x * valL g x) ∧ ∀ k, 2000000 ≤ k → modp_DivMod.f k a g p = some (q, [], 0) := by
 obtain ⟨F, hF, cF⟩ := hd
 obtain ⟨q, r, rq, rr, lr, lq, hc, hk⟩ := divmod_is p hpp hp2 a g ha hg la lg l0
 have hz := div_small hpp rr hg lr (hF.sub (PF.of q)) (by
   have h5 := (hc.symm.trans cF).sub (Cg.refl (p : Int) (fun x => valL q x * valL g x))
   exact (Cg.of_eq _ (fun x => by grind)).trans (h5.trans (Cg.of_eq _ (fun x => by grind))))
 obtain rfl := hz.1
 exact ⟨q, rq, lq, hc.trans (Cg.of_eq _ (fun x => by simp [valL])), hk⟩
theorem gcd_true (a0 : Int) (A1 A2 A3 : Option Addr) (c1 c2 c3 : Nat) (l1 l2 l3 : List Int) (h0 : 0 ≤ a0) (h1 : ∀ x ∈ l1, 0 ≤ x) (h2 : ∀ x ∈ l2, 0 ≤ x) (h3 : ∀ x ∈ l3, 0 ≤ x)
   (w : World) (hG : GW w) (r1 : CV w (.slice A1 l1.length c1) l1) (r2 : CV w (.slice A2 l2.length c2) l2) (r3 : CV w (.slice A3 l3.length c3) l3) :
   Calls Tryd.prog 5 #[.agg #[.int .u32 a0, .slice A1 l1.length c1, .slice A2 l2.length c2, .slice A3 l3.length c3]] w fun e w' => e = .returned (.bool true) ∧ Below w.heap.size w w' := by
 obtain ⟨K, hK⟩ : ∃ K : Nat, 3000000 ≤ K := ⟨_, Nat.le_refl _⟩
 obtain ⟨p, hof, hpp, hp2⟩ := refof_is a0 h0 K (by omega)
 have hp0 : (0 : Int) < p := by have := hpp.1; omega
 have hpi : (p : Int) < 65536 := by omega
 obtain ⟨a, ma, ba, oa, la⟩ := made_is l1 p 20 hp0 hpi h1 (by omega) K (by omega)
 obtain ⟨b, mb, bb, ob, lb⟩ := made_is l2 p 20 hp0 hpi h2 (by omega) K (by omega)
 obtain ⟨c, mc, bc, oc, lc⟩ := made_is l3 p 20 hp0 hpi h3 (by omega) K (by omega)
 have ra : RP p a := ⟨ba, oa⟩
 have rb : RP p b := ⟨bb, ob⟩
 have rc : RP p c := ⟨bc, oc⟩
 by_cases hz : a.length + b.length = 0
 · obtain rfl : a = [] := List.eq_nil_of_length_eq_zero (by omega)
   obtain rfl : b = [] := List.eq_nil_of_length_eq_zero (by omega)
   refine gcd_walk0 K a0 A1 A2 A3 c1 c2 c3 l1 l2 l3 p [] [] c [] hof ma mb mc ?_ ?_ rfl w hG r1 r2 r3
   · obtain ⟨K, rfl⟩ : ∃ k', K = k' + 1 := ⟨K - 1, by omega⟩
     unfold modp_Gcd.f
     rw [modp_Gcd.l0, if_neg (by simp)]
     rfl
   · exact w64_add (i := 0) (j := 0) (by omega)
 obtain ⟨g, hg, lg, kg⟩ := gcd_is p hpp hp2 a b ra rb (by omega) (by omega) (by omega)
 obtain ⟨q, rq, lq, cq, kq⟩ := exact_div hpp hp2 ra hg.r (by omega) (by omega) hg.l hg.d1
 obtain ⟨s, rs, ls, cs, ks⟩ := exact_div hpp hp2 rb hg.r (by omega) (by omega) hg.l hg.d2
 -- the quotients have no common divisor but 1
 have hqs : 0 < q.length + s.length := by
   rcases Nat.eq_zero_or_pos (q.length + s.length) with h | h
   · exfalso
     obtain rfl : q = [] := List.eq_nil_of_length_eq_zero (by omega)
     obtain rfl : s = [] := List.eq_nil_of_length_eq_zero (by omega)
     have e1 := RP.eq hp0 ra (RP.nil _) (cq.trans (Cg.of_eq _ (fun x => by simp [valL])))
     have e2 := RP.eq hp0 rb (RP.nil _) (cs.trans (Cg.of_eq _ (fun x => by simp [valL])))
     rw [e1, e2] at hz
     exact hz rfl
   · exact h
 obtain ⟨g1, hg1, lg1, kg1⟩ := gcd_is p hpp hp2 q s rq rs (by omega) (by omega) hqs
 have eg1 : g1 = [1] := by
   obtain ⟨U, V, hU, hV, cg⟩ := hg.c
   obtain ⟨Q1, hQ1, cQ1⟩ := hg1.d1
   obtain ⟨S1, hS1, cS1⟩ := hg1.d2
   have hone : Cg p (fun _ => 1) (fun x => U x * valL q x + V x * valL s x) := by
     refine cancel hpp hg.r hg.l (PF.const 1) ((hU.mul (PF.of q)).add (hV.mul (PF.of s))) ?_
     exact (Cg.of_eq _ (fun x => by grind)).trans (cg.trans (((cq.mul_left hU).add (cs.mul_left hV)).trans (Cg.of_eq _ (fun x => by grind))))
   have e1 : ∀ x, valL [1] x = 1 := fun x => by simp [valL]
   exact hg1.same hpp (right_one hpp) (by decide) rfl ⟨valL q, PF.of q, Cg.of_eq _ (fun x => by rw [e1]; grind)⟩ ⟨valL s, PF.of s, Cg.of_eq _ (fun x => by rw [e1]; grind)⟩
     ⟨fun x => U x * Q1 x + V x * S1 x, (hU.mul hQ1).add (hV.mul hS1), (Cg.of_eq _ e1).trans (hone.trans (((cQ1.mul_left hU).add (cS1.mul_left hV)).trans (Cg.of_eq _ (fun x => by grind))))⟩
 -- turned about
 obtain ⟨g2, hg2, lg2, kg2⟩ := gcd_is p hpp hp2 b a rb ra (by omega) (by omega) (by omega)
 have eg2 : g2 = g := by
   obtain ⟨F, hF, cF⟩ := hg2.d1
   obtain ⟨G, hG', cG⟩ := hg2.d2
   obtain ⟨U, V, hU, hV, cg⟩ := hg.c
   exact hg2.same hpp hg.r hg.l hg.m hg.d2 hg.d1 ⟨fun x => U x * G x + V x * F x, (hU.mul hG').add (hV.mul hF), cg.trans (((cG.mul_left hU).add (cF.mul_left hV)).trans (Cg.of_eq _ (fun x => by grind)))⟩
 -- times a third one
 obtain ⟨m1, rm1, lm1, cm1, km1⟩ := mul_cg p hpp hp2 a c ra rc (by omega) (by omega)
 obtain ⟨m2, rm2, lm2, cm2, km2⟩ := mul_cg p hpp hp2 b c rb rc (by omega) (by omega)
 have elast : rd g (wrap64 ((g.length : Int) - 1)) = 1 := by
   rw [w64_pred hg.l (by omega), rd_cf]
   exact hg.m
 have e0 : ¬ wrap64 ((a.length : Int) + (b.length : Int)) = 0 := by
   rw [w64_add (by omega)]
   omega
 suffices hlast : ∃ more mcc h, modp_Gcd.f K m1 m2 p = some more ∧ zigguratref14_Monic.f K c p = some mcc ∧ zigguratref14_Mul.f K g mcc p = some h ∧ more = h ∧ more.length < 1000 by
   obtain ⟨more, mcc, h, k1, k2, k3, e, ll⟩ := hlast
   subst e
   subst eg1
   subst eg2
   exact gcd_walk1 K a0 A1 A2 A3 c1 c2 c3 l1 l2 l3 p a b c _ hof ma mb mc (kg K (by omega)) e0 hg.l (by omega) elast (refright_is hg.r.b hg.r.o (by omega) K (by omega)) q s _ _ m1 m2 _ mcc _ (kq K (by omega)) (ks K (by omega)) (kg1 K (by omega)) (refsame_is _ (by simp) K (by simp; omega)) (kg2 K (by omega)) (refsame_is _ (by omega) K (by omega)) (km1 K (by omega)) (km2 K (by omega)) k1 k2 k3 (refsame_is _ (by omega) K (by omega)) w hG r1 r2 r3
 by_cases hc0 : c.length = 0
 · obtain rfl : c = [] := List.eq_nil_of_length_eq_zero hc0
   obtain rfl : m1 = [] := RP.eq hp0 rm1 (RP.nil _) (cm1.trans (Cg.of_eq _ (fun x => by simp [valL])))
   obtain rfl : m2 = [] := RP.eq hp0 rm2 (RP.nil _) (cm2.trans (Cg.of_eq _ (fun x => by simp [valL])))
   obtain ⟨h, rh, ch, kh⟩ := refmul_cg p hpp hp2 g [] hg.r (RP.nil _) (by omega) (by simp)
   obtain rfl : h = [] := RP.eq hp0 rh (RP.nil _) (ch.trans (Cg.of_eq _ (fun x => by simp [valL])))
   refine ⟨[], [], [], ?_, ?_, kh K (by omega), rfl, by simp⟩
   · obtain ⟨K, rfl⟩ : ∃ k', K = k' + 1 := ⟨K - 1, by omega⟩
     unfold modp_Gcd.f
     rw [modp_Gcd.l0, if_neg (by simp)]
     rfl
   · rfl
 have hl1 : 0 < m1.length + m2.length := by
   rcases Nat.eq_zero_or_pos (m1.length + m2.length) with h | h
   · exfalso
     obtain rfl : m1 = [] := List.eq_nil_of_length_eq_zero (by omega)
     obtain rfl : m2 = [] := List.eq_nil_of_length_eq_zero (by omega)
     have z1 := div_small hpp (a := []) (RP.nil _) rc (by simp; omega) (PF.of a) cm1
     have z2 := div_small hpp (a := []) (RP.nil _) rc (by simp; omega) (PF.of b) cm2
     have e1 := RP.eq hp0 ra (RP.nil _) (z1.2.trans (Cg.of_eq _ (fun x => rfl)))
     have e2 := RP.eq hp0 rb (RP.nil _) (z2.2.trans (Cg.of_eq _ (fun x => rfl)))
     rw [e1, e2] at hz
     exact hz rfl
   · exact h
 obtain ⟨more, hmo, lmo, kmo⟩ := gcd_is p hpp hp2 m1 m2 rm1 rm2 (by omega) (by omega) hl1
 obtain ⟨y, hy, ky⟩ := refmonic_is p hpp hp2 c rc (by omega) (by omega)
 obtain ⟨f1, f2, f3, f4, f5⟩ := scaled hpp rc (by omega) hy
 obtain ⟨h, rh, ch, kh⟩ := refmul_cg p hpp hp2 g _ hg.r f1 (by omega) (by omega)
 refine ⟨more, _, h, kmo K (by omega), ky K (by omega), kh K (by omega), ?_, by omega⟩
 obtain ⟨p1, p2, p3, ⟨t, p4⟩⟩ := prod_right hpp hg.r f1 hg.l (by omega)
 have eh := RP.eq hp0 rh p1 (ch.trans p3.symm)
 rw [← eh, f2] at p2 p4
 rw [hg.m, f3] at p4
 have hh : cf h (h.length - 1) = 1 := by
   rw [show h.length - 1 = g.length + c.length - 2 by omega]
   have h1 := hpp.1
   exact small_eq (rh.cf_b hp0 _) ⟨by omega, by omega⟩ (t := t) (by rw [p4]; omega)
 have hgl := hg.l
 obtain ⟨U, V, hU, hV, cg⟩ := hg.c
 obtain ⟨Q2, hQ2, cQ2⟩ := hmo.d1
 obtain ⟨S2, hS2, cS2⟩ := hmo.d2
 -- each divides the other
 have hgy : Cg p (valL h) (fun x => (y * U x) * (valL a x * valL c x) + (y * V x) * (valL b x * valL c x)) := by
   refine ch.trans ((Cg.mul (PF.of g) (PF.const y |>.mul (PF.of c)) (Cg.refl _ _) f4).trans ?_)
   refine ((cg.mul_right ((PF.const y).mul (PF.of c))).trans (Cg.of_eq _ (fun x => by grind)))
 refine hmo.same hpp rh (by omega) hh ?_ ?_ ⟨fun x => (y * U x) * Q2 x + (y * V x) * S2 x, (((PF.const y).mul hU).mul hQ2).add (((PF.const y).mul hV).mul hS2), ?_⟩
 · refine ⟨fun x => valL q x * cf c (c.length - 1), (PF.of q).mul (PF.const _), cm1.trans ?_⟩
   refine ((cq.mul_right (PF.of c)).trans ((f5.mul_left ((PF.of q).mul (PF.of g))).trans ?_))
   exact (Cg.of_eq _ (fun x => by grind)).trans ((ch.symm.mul_left ((PF.of q).mul (PF.const (cf c (c.length - 1))))).trans (Cg.of_eq _ (fun x => rfl)))
 · refine ⟨fun x => valL s x * cf c (c.length - 1), (PF.of s).mul (PF.const _), cm2.trans ?_⟩
   refine ((cs.mul_right (PF.of c)).trans ((f5.mul_left ((PF.of s).mul (PF.of g))).trans ?_))
   exact (Cg.of_eq _ (fun x => by grind)).trans ((ch.symm.mul_left ((PF.of s).mul (PF.const (cf c (c.length - 1))))).trans (Cg.of_eq _ (fun x => rfl)))
 · refine hgy.trans ?_
   have a1 := (cm1.symm.trans cQ2).mul_left ((PF.const y).mul hU)
   have a2 := (cm2.symm.trans cS2).mul_left ((PF.const y).mul hV)
   exact (a1.add a2).trans (Cg.of_eq _ (fun x => by grind))
end Go.Proofs.YtofbpjpdahcghaaDoor.Q
