/-
  ModpReduce: what is made of polynomials with whole coefficients, and then taken modulo a prime, is made alike of what they are modulo it (the row, the walk and the plain words), part 9 of 13 (packed by pack.py from texts of this session).
-/
import Derived.Test.YtjbcnppbcomaiaaGreatDoorPR1
import Derived.Test.YtjbcnppbcomaiaaGreatDoorPR2
import Derived.Test.YtjbcnppbcomaiaaGreatDoorPR8
set_option maxRecDepth 100000
set_option maxHeartbeats 8000000
set_option linter.unusedVariables false
namespace Go.Proofs.YtjbcnppbcomaiaaGreatDoor.Q
open Go.RowKit Go.Proofs.YtjbcnppbcomaiaaGreatDoorW.PrintWords
set_option linter.unusedVariables false
theorem valL_zero : ∀ (b : List Int), (∀ j, cf b j = 0) → ∀ x, valL b x = 0
 | [], _, x => rfl
 | y :: b, h, x => by
   have h0 : y = 0 := h 0
   simp only [valL]
   rw [h0, valL_zero b (fun j => h (j + 1)) x]
   simp
theorem valL_cf : ∀ (a b : List Int), (∀ j, cf a j = cf b j) → ∀ x, valL a x = valL b x
 | [], b, h, x => (valL_zero b (fun j => (h j).symm) x).symm
 | y :: a, [], h, x => valL_zero (y :: a) h x
 | y :: a, z :: b, h, x => by
   have h0 : y = z := h 0
   simp only [valL]
   rw [h0, valL_cf a b (fun j => h (j + 1)) x]
theorem zat_cf (zs : List Int) (j : Nat) : zat zs (j : Int) = cf zs j := by
 unfold zat cf
 rw [if_pos (by omega), Int.toNat_natCast]
theorem cf_mapR (g : Nat → Int) (n j : Nat) : cf ((List.range n).map g) j = if j < n then g j else 0 := by
 unfold cf
 rw [List.getD_eq_getElem?_getD, List.getElem?_map]
 split
 · rename_i h
   rw [List.getElem?_range h]
   rfl
 · rename_i h
   rw [List.getElem?_eq_none (by simp; omega)]
   rfl
theorem addR_val (zs ys : List Int) (x : Int) : valL (addR zs ys (max zs.length ys.length)) x = valL zs x + valL ys x := by
 rw [← val_add]
 refine valL_cf _ _ (fun j => ?_) x
 unfold addR
 rw [cf_mapR, cf_add]
 split
 · rw [zat_cf, zat_cf]
 · rw [cf_out zs j (by omega), cf_out ys j (by omega)]
   rfl
theorem mulS_row (zs ys : List Int) (i : Nat) : ∀ k, k ≤ i + 1 → mulS zs ys i k = rowS zs ys k i
 | 0, _ => rfl
 | k + 1, h => by
   have e : (i : Int) - (k : Int) = ((i - k : Nat) : Int) := by omega
   rw [mulS, rowS, mulS_row zs ys i k (by omega), if_pos (by omega), zat_cf, e, zat_cf]
theorem row_far (a b : List Int) (j : Nat) (h : a.length + b.length - 1 ≤ j) : ∀ n, n ≤ a.length → rowS a b n j = 0
 | 0, _ => rfl
 | n + 1, hn => by
   rw [rowS, row_far a b j h n (by omega), cf_out b (j - n) (by omega)]
   split <;> simp
theorem mulR_val (zs ys : List Int) (x : Int) : valL (mulR zs ys (zs.length + ys.length - 1)) x = valL zs x * valL ys x := by
 rw [← val_mul]
 refine valL_cf _ _ (fun j => ?_) x
 unfold mulR
 rw [cf_mapR, cf_mulI]
 split
 · rw [mulS_row zs ys j (j + 1) (by omega), rowS_diag]
 · rename_i h
   rw [row_far zs ys j (by omega) _ (by omega)]
theorem trim_mem {P : Int → Prop} : ∀ {l : List Int}, (∀ z ∈ l, P z) → ∀ z ∈ trimL l, P z
 | [], _, z, hz => by simp [trimL] at hz
 | a :: l, h, z, hz => by
   simp only [trimL] at hz
   split at hz
   · simp at hz
   · rcases List.mem_cons.1 hz with rfl | hz
     · exact h z (List.mem_cons_self)
     · exact trim_mem (fun y hy => h y (List.mem_cons_of_mem _ hy)) z hz
theorem addR_mem {zs ys : List Int} {m : Nat} (hz : ∀ z ∈ zs, zlen z ≤ m) (hy : ∀ z ∈ ys, zlen z ≤ m) (n : Nat) : ∀ z ∈ addR zs ys n, zlen z ≤ m + 1 := fun z h => by
 obtain ⟨j, _, rfl⟩ := List.mem_map.1 h
 exact zlen_add (zat_mem (P := fun z => zlen z ≤ m) (by rw [zlen_zero]; omega) hz (j : Int)) (zat_mem (P := fun z => zlen z ≤ m) (by rw [zlen_zero]; omega) hy (j : Int))
theorem mulS_abs {zs ys : List Int} {P : Nat} (hz : ∀ z ∈ zs, z.natAbs < P) (hy : ∀ z ∈ ys, z.natAbs < P) (h0 : 0 < P) (i : Nat) : ∀ k, (mulS zs ys i k).natAbs ≤ k * (P * P)
 | 0 => by simp [mulS]
 | k + 1 => by
   have h1 : (zat zs (k : Int)).natAbs < P := zat_mem (P := fun z => z.natAbs < P) h0 hz _
   have h2 : (zat ys ((i : Int) - (k : Int))).natAbs < P := zat_mem (P := fun z => z.natAbs < P) h0 hy _
   have h3 := mulS_abs hz hy h0 i k
   have h4 : (zat zs (k : Int) * zat ys ((i : Int) - (k : Int))).natAbs ≤ P * P := by
     rw [Int.natAbs_mul]
     exact Nat.mul_le_mul (by omega) (by omega)
   rw [mulS, Nat.succ_mul]
   have h5 := Int.natAbs_add_le (mulS zs ys i k) (zat zs (k : Int) * zat ys ((i : Int) - (k : Int)))
   omega
theorem mulS_len {zs ys : List Int} {m : Nat} (hz : ∀ z ∈ zs, zlen z ≤ m) (hy : ∀ z ∈ ys, zlen z ≤ m) (i k : Nat) (hk : k ≤ 1000) : zlen (mulS zs ys i k) ≤ 2 * m + 1 := by
 have h0 : 0 < 4294967296 ^ m := Nat.pow_pos (by decide)
 have h1 := mulS_abs (P := 4294967296 ^ m) (fun z h => zlen_le.1 (hz z h)) (fun z h => zlen_le.1 (hy z h)) h0 i k
 rw [zlen_le, Nat.pow_succ, show 2 * m = m + m by omega, Nat.pow_add]
 have h2 : 0 < 4294967296 ^ m * 4294967296 ^ m := Nat.mul_pos h0 h0
 generalize 4294967296 ^ m * 4294967296 ^ m = Q at *
 have h3 : k * Q ≤ 1000 * Q := Nat.mul_le_mul_right _ hk
 omega
theorem mulR_mem {zs ys : List Int} {m : Nat} (hz : ∀ z ∈ zs, zlen z ≤ m) (hy : ∀ z ∈ ys, zlen z ≤ m) (n : Nat) (hn : n ≤ 999) : ∀ z ∈ mulR zs ys n, zlen z ≤ 2 * m + 1 := fun z h => by
 obtain ⟨j, hj, rfl⟩ := List.mem_map.1 h
 exact mulS_len hz hy j (j + 1) (by have := List.mem_range.1 hj; omega)
theorem reduce_law (p : Nat) (hpp : isPrime p) (hp2 : p < 65536) (zs ys : List Int) (hz : ∀ z ∈ zs, zlen z ≤ 4) (hy : ∀ z ∈ ys, zlen z ≤ 4) (hlz : zs.length ≤ 10) (hly : ys.length ≤ 10) (K : Nat) (hK : 3000000 ≤ K) :
   ∃ x y s q : List Int, modp_Reduce.f K (zs.map mkZ) (p : Int) = some x ∧ modp_Reduce.f K (ys.map mkZ) (p : Int) = some y ∧ zigguratref14_Right.f K x (p : Int) = some true ∧
     modp_Reduce.f K ((trimL (addR zs ys (max zs.length ys.length))).map mkZ) (p : Int) = some s ∧ modp_Add.f K x y (p : Int) = some s ∧ zigguratref14_Same.f K s s = some true ∧
     modp_Reduce.f K ((trimL (mulR zs ys (zs.length + ys.length - 1))).map mkZ) (p : Int) = some q ∧ modp_Mul.f K x y (p : Int) = some q ∧ zigguratref14_Same.f K q q = some true := by
 have hp0 : (0 : Int) < p := by have := hpp.1; omega
 have hp : 0 < p := by have := hpp.1; omega
 have lx : (normP (p : Int) zs).length ≤ 10 := by have h1 := trimL_len (zs.map (· % (p : Int))); rw [List.length_map] at h1; exact Nat.le_trans h1 hlz
 have ly : (normP (p : Int) ys).length ≤ 10 := by have h1 := trimL_len (ys.map (· % (p : Int))); rw [List.length_map] at h1; exact Nat.le_trans h1 hly
 have rx := normP_right hp0 zs
 have ry := normP_right hp0 ys
 obtain ⟨s, rs, ls, cs, ks⟩ := add_cg p hpp hp2 _ _ rx ry (by omega) (by omega)
 obtain ⟨q, rq, lq, cq, kq⟩ := mul_cg p hpp hp2 _ _ rx ry (by omega) (by omega)
 have es : normP (p : Int) (trimL (addR zs ys (max zs.length ys.length))) = s := by
   refine RP.eq hp0 (normP_right hp0 _) rs ?_
   refine (normP_cg _ _).trans ((Cg.of_eq _ (fun x => ?_)).trans (((normP_cg (p : Int) zs).symm.add (normP_cg (p : Int) ys).symm).trans cs.symm))
   rw [valL_trim, addR_val]
 have eq : normP (p : Int) (trimL (mulR zs ys (zs.length + ys.length - 1))) = q := by
   refine RP.eq hp0 (normP_right hp0 _) rq ?_
   refine (normP_cg _ _).trans ((Cg.of_eq _ (fun x => ?_)).trans ((Cg.mul (PF.of _) (PF.of _) (normP_cg (p : Int) zs).symm (normP_cg (p : Int) ys).symm).trans cq.symm))
   rw [valL_trim, mulR_val]
 have la : (trimL (addR zs ys (max zs.length ys.length))).length ≤ 10 := by have h1 := trimL_len (addR zs ys (max zs.length ys.length)); rw [addR_len] at h1; omega
 have lm : (trimL (mulR zs ys (zs.length + ys.length - 1))).length ≤ 20 := by have h1 := trimL_len (mulR zs ys (zs.length + ys.length - 1)); rw [mulR_len] at h1; omega
 refine ⟨_, _, s, q, reduce_f p hp hp2 (fun z h => by have := hz z h; omega) (by omega) K (by omega), reduce_f p hp hp2 (fun z h => by have := hy z h; omega) (by omega) K (by omega), refright_is rx.b rx.o (by omega) K (by omega), ?_, ks K (by omega), refsame_is _ (by omega) K (by omega), ?_, kq K (by omega), refsame_is _ (by omega) K (by omega)⟩
 · rw [← es]
   exact reduce_f p hp hp2 (trim_mem (fun z h => by have := addR_mem hz hy _ z h; omega)) (by omega) K (by omega)
 · rw [← eq]
   exact reduce_f p hp hp2 (trim_mem (fun z h => by have := mulR_mem hz hy _ (by omega) z h; omega)) (by omega) K (by omega)
theorem V_CV {w : World} {b : Nat} {ok : Nat → Prop} {v : Value} {l : List Int} (h : Kd.V (Kd.int .u32) 23 w b ok v l) : CV w v l := by
 obtain ⟨A, c, rfl⟩ := Kd.V_slice h
 have h2 := Kd.V_reads' h
 exact ⟨A, c, rfl, h2.2.1, h2.2.2⟩
theorem red7 : modp_Reduce.f 60 [⟨true, [1]⟩, ⟨false, [9]⟩, ⟨false, [14]⟩] 7 = some [6, 2] := by kernel_rfl
theorem reduce7 (A0 : Option Addr) (c0 : Nat) (w : World) (h0 : Kd.C k56 w A0 3 [⟨true, [1]⟩, ⟨false, [9]⟩, ⟨false, [14]⟩]) (hc : 3 ≤ c0) : Calls Tryz.prog 7 #[.slice A0 3 c0, .int .u32 7] w fun e w' => ∃ v, e = .returned v ∧ CV w' v [6, 2] ∧ Below w.heap.size w w' :=
 (modp_Reduce.calls 60 A0 c0 [⟨true, [1]⟩, ⟨false, [9]⟩, ⟨false, [14]⟩] 7 [6, 2] w h0 hc red7).mono (fun e w' ⟨v, he, hv, hb⟩ => ⟨v, he, V_CV hv, hb⟩)
end Go.Proofs.YtjbcnppbcomaiaaGreatDoor.Q
