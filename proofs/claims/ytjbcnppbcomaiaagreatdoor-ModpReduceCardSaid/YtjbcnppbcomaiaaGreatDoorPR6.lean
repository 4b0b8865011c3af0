/-
  ModpReduce: what is made of polynomials with whole coefficients, and then taken modulo a prime, is made alike of what they are modulo it (the row, the walk and the plain words), part 6 of 13 (packed by pack.py from texts of this session).
-/
import Derived.Test.YtjbcnppbcomaiaaGreatDoorPR1
import Derived.Test.YtjbcnppbcomaiaaGreatDoorPR3
import Derived.Test.YtjbcnppbcomaiaaGreatDoorPR4
import Derived.Test.YtjbcnppbcomaiaaGreatDoorPR5
import Derived.Shelf.SlSortCmp.InsertionK
set_option maxRecDepth 100000
set_option maxHeartbeats 8000000
set_option linter.unusedVariables false
namespace Go.Proofs.YtjbcnppbcomaiaaGreatDoor.Q
open Go.RowKit Go.Shelf Go.Lib Go.Sort Go.Proofs.YtjbcnppbcomaiaaGreatDoorW.PrintWords Go.Proofs.YtjbcnppbcomaiaaGreatDoorW.PrintLast Go.Proofs.YtjbcnppbcomaiaaGreatDoorW.PrintMore
attribute [local go_sem] max2_int min2_int max_two min_two max_three min_three max_four min_four
set_option linter.unusedVariables false
set_option linter.unusedSimpArgs false
def insSort_ren : Go.Shelf.Ren := ⟨fun | 20 => 87 | n => n, fun | 24 => 46 | 22 => 34 | 3 => 3 | 25 => 75 | 4 => 4 | 0 => 0 | n => n, fun | n => n⟩
theorem insSort : Go.Proofs.SlLaysF0.n20 Tryz.prog insSort_ren := {
 mixed := by kernel_rfl
 f20 := ⟨Tryz.f87.name, by decide, Tryz.func87.trans (congrArg some (by kernel_rfl))⟩
 t0 := Tryz.underlying0
 a0 := Tryz.isAgg0
 z0 := Tryz.sizeOf0
 v0 := Tryz.zeroValue0
 t3 := Tryz.underlying3
 a3 := Tryz.isAgg3
 z3 := Tryz.sizeOf3
 v3 := Tryz.zeroValue3
 t4 := Tryz.underlying4
 a4 := Tryz.isAgg4
 z4 := Tryz.sizeOf4
 v4 := Tryz.zeroValue4
 t22 := Tryz.underlying34
 a22 := Tryz.isAgg34
 z22 := Tryz.sizeOf34
 v22 := Tryz.zeroValue34
 t25 := Tryz.underlying75
 a25 := Tryz.isAgg75
 z25 := Tryz.sizeOf75
 v25 := Tryz.zeroValue75 }
def modp_cmp.f (k : Nat) (xs ys : List Int) : Option Int := (cmp_Compare_int.f (xs.length : Int) (ys.length : Int)).bind fun c => if c = 0 then slices_Compare_uint32_uint32.f k xs ys else some c
theorem modp_cmp.calls (k : Nat) (A0 : Option Addr) (c0 : Nat) (l0 : List Int) (a0 : Int) (A1 : Option Addr) (c1 : Nat) (l1 : List Int) (a1 : Int) (r : Int) (w : World) (h0 : CV w (.slice A0 l0.length c0) l0) (h1 : CV w (.slice A1 l1.length c1) l1) (h : modp_cmp.f k l0 l1 = some r) :
   Calls Tryz.prog 41 #[.agg #[.slice A0 l0.length c0, .int .i64 a0], .agg #[.slice A1 l1.length c1, .int .i64 a1]] w fun e w' => e = .returned (.int .i64 r) ∧ ∃ q os', w' = grow (w.drewN q) os' := by
 have hu52 := Tryz.underlying46
 have HC0 := am h0
 have HC1 := am h1
 clear h0 h1
 obtain ⟨c, hc, h⟩ := Option.bind_eq_some_iff.1 h
 have HC := am hc
 clear hc
 by_cases e : c = 0
 · rw [if_pos e] at h
   have HS := am h
   subst e
   clear h
   go_enter Tryz.func41, Tryz.ntmps41
   go_wp2_with (first
     | (go_at_call 42; (with_reducible refine (cmp_Compare_int.calls _ _ _ _ HC.out).mono ?_); rintro e1 w1 ⟨rfl, ⟨n1, rfl⟩⟩)
     | (go_at_call 43; (with_reducible refine (slices_Compare_uint32_uint32.calls k _ _ l0 _ _ l1 r _ ?s1 ?s2 ?s3 ?s4 HS.out).mono ?_); (case s1 => exact (Kd.C_drewN (Kd.C_alloc (Kd.C_alloc (CV_reads' HC0.out).2.2 _) _) _)); (case s2 => exact (CV_reads' HC0.out).2.1); (case s3 => exact (Kd.C_drewN (Kd.C_alloc (Kd.C_alloc (CV_reads' HC1.out).2.2 _) _) _)); (case s4 => exact (CV_reads' HC1.out).2.1); rintro e2 w2 ⟨rfl, ⟨n2, rfl⟩⟩))
   go_ret
   exact ⟨rfl, n1 + n2, _, by rw [alloc_eq_grow, alloc_eq_grow, grow_grow]; rfl⟩
 rw [if_neg e] at h
 have e1 : (c == 0) = false := beq_eq_false_iff_ne.mpr e
 have e2 : (c != 0) = true := bne_iff_ne.mpr e
 clear e
 obtain rfl := Option.some.inj h
 clear h
 go_enter Tryz.func41, Tryz.ntmps41
 go_wp2_with (first
   | (go_at_call 42; (with_reducible refine (cmp_Compare_int.calls _ _ _ _ HC.out).mono ?_); rintro e1 w1 ⟨rfl, ⟨n1, rfl⟩⟩))
 go_ret
 exact ⟨rfl, n1, _, by rw [alloc_eq_grow, alloc_eq_grow, grow_grow]; rfl⟩
theorem ins2 (lt : Bool → Bool → Bool) : Sort.insertionSort lt #[false, true] 0 2 = if lt true false then #[true, false] else #[false, true] := by
 unfold Sort.insertionSort
 rw [Sort.insOuter, if_pos (by decide), Sort.insOuter, if_neg (by decide)]
 simp only [Nat.zero_add, Sort.insInner]
 cases h : lt true false <;> simp [h, Sort.swp, Sort.insInner]
theorem sw_heap {α : Type} [Inhabited α] (enc : α → List Value) (k : Nat) (w : World) (blk off m : Nat) (dk : Array α) (os : Array Obj) (b : Nat) (hb : b < w.heap.size) (hne : b ≠ blk) : (sortWorldK enc k w blk off m dk os).heap[b]? = w.heap[b]? := by
 have hs : b < (putRowK enc k (Sort.ahead w m) blk off dk).heap.size := by rw [size_putRowK]; exact hb
 show ((putRowK enc k (Sort.ahead w m) blk off dk).heap ++ os)[b]? = w.heap[b]?
 rw [Array.getElem?_append_left hs]
 unfold putRowK putRow mapBlock
 simp [Array.getElem?_modify, Ne.symm hne]
theorem sw_size {α : Type} [Inhabited α] (enc : α → List Value) (k : Nat) (w : World) (blk off m : Nat) (dk : Array α) (os : Array Obj) : w.heap.size ≤ (sortWorldK enc k w blk off m dk os).heap.size := by
 show w.heap.size ≤ ((putRowK enc k (Sort.ahead w m) blk off dk).heap ++ os).size
 rw [Array.size_append, size_putRowK]
 exact Nat.le_add_right _ _
def modp_sort.f (k : Nat) : List S52 → Option (List S52)
 | [] => some []
 | [x] => some [x]
 | [x, y] => if (modp_cmp.f k x.f0 x.f0).isSome && (modp_cmp.f k x.f0 y.f0).isSome && (modp_cmp.f k y.f0 x.f0).isSome && (modp_cmp.f k y.f0 y.f0).isSome then (if (modp_cmp.f k y.f0 x.f0).getD 0 < 0 then some [y, x] else some [x, y]) else none
 | _ => none
def Sorted (v : Value) (w : World) (r : List S52) (e : Ending) (w' : World) : Prop :=
 e = .returned (.tuple #[]) ∧ (∃ A c, v = .slice A r.length c ∧ r.length ≤ c ∧ Kd.C k52 w' A r.length r) ∧ KW w w' (fun k => some k = v.ownBlock)
theorem ins_two (k : Nat) (g cap base : Nat) (ok : Nat → Prop) (x y : S52) (r : List S52) (w : World) (hN : Kd.N k52 46 w base ok (.slice (some ⟨g, 0, none⟩) 2 cap) [x, y]) (h : modp_sort.f k [x, y] = some r) :
   Calls Tryz.prog 87 #[.slice (some ⟨g, 0, none⟩) 2 cap, .int .i64 0, .int .i64 2, .func (.func 41) #[] #[]] w fun e w' => Sorted (.slice (some ⟨g, 0, none⟩) 2 cap) w r e w' := by
 obtain ⟨cx, hcx, hFx, hccx, hfx⟩ := Kd.N_elem hN z52 0 (by decide) (by decide)
 obtain ⟨cy, hcy, hFy, hccy, hfy⟩ := Kd.N_elem hN z52 1 (by decide) (by decide)
 obtain ⟨Ax, kx, rfl, hlx, hgx⟩ := k52_openF hFx
 obtain ⟨Ay, ky, rfl, hly, hgy⟩ := k52_openF hFy
 have hcap := (Kd.N_reads' hN).2.1
 have hgs : g < w.heap.size := Kd.N_lt hN g (by simp [Value.ownBlock])
 let enc : Bool → List Value := fun b => if b then [.slice Ay y.f0.length ky, .int .i64 y.f1] else [.slice Ax x.f0.length kx, .int .i64 x.f1]
 let L : Bool → List Int := fun b => if b then y.f0 else x.f0
 have hall : ∀ a b : Bool, (modp_cmp.f k (L a) (L b)).isSome = true := by
   simp only [modp_sort.f] at h
   split at h
   · rename_i hc
     simp only [Bool.and_eq_true] at hc
     intro a b
     cases a <;> cases b
     · exact hc.1.1.1
     · exact hc.1.1.2
     · exact hc.1.2
     · exact hc.2
   · cases h
 have hr : r = if (modp_cmp.f k y.f0 x.f0).getD 0 < 0 then [y, x] else [x, y] := by
   simp only [modp_sort.f] at h
   split at h
   · split at h
     · rename_i h2; rw [if_pos h2]; exact (Option.some.inj h).symm
     · rename_i h2; rw [if_neg h2]; exact (Option.some.inj h).symm
   · cases h
 let cf : Bool → Bool → Int := fun a b => (modp_cmp.f k (L a) (L b)).getD 0
 have hH : HoldsK enc 2 w g 0 #[false, true] := by
   intro j hj
   have hj4 : j < 4 := by simpa [flatK] using hj
   have e : ∀ j, j < 4 → (flatK enc 2 #[false, true])[j]! = ([.slice Ax x.f0.length kx, .int .i64 x.f1, .slice Ay y.f0.length ky, .int .i64 y.f1] : List Value)[j]! := by
     intro j hj
     rw [get_flatK enc 2 #[false, true] j (by show j < 2 * 2; omega)]
     match j, hj with
     | 0, _ => rfl
     | 1, _ => rfl
     | 2, _ => rfl
     | 3, _ => rfl
   rw [Nat.zero_add]
   show w.cell? ⟨g, j, none⟩ = some ((flatK enc 2 #[false, true])[j]!) ∧ _
   rw [e j hj4]
   match j, hj4 with
   | 0, _ => exact ⟨hccx 0 _ rfl, hfx 0⟩
   | 1, _ => exact ⟨hccx 1 _ rfl, hfx 1⟩
   | 2, _ => exact ⟨hccy 0 _ rfl, hfy 0⟩
   | 3, _ => exact ⟨hccy 1 _ rfl, hfy 1⟩
 have hcv : ∀ (m : Nat) (dk : Array Bool) (os : Array Obj) (b : Bool), ∃ A c, enc b = [.slice A (L b).length c, .int .i64 (if b then y.f1 else x.f1)] ∧ CV (sortWorldK enc 2 w g 0 m dk os) (.slice A (L b).length c) (L b) := by
   intro m dk os b
   cases b
   · exact ⟨Ax, kx, rfl, Ax, kx, rfl, hlx, Kd.F_now (Kd.F_step hgx (fun k_ hk hlt => sw_heap enc 2 w g 0 m dk os k_ hlt hk.2))⟩
   · exact ⟨Ay, ky, rfl, Ay, ky, rfl, hly, Kd.F_now (Kd.F_step hgy (fun k_ hk hlt => sw_heap enc 2 w g 0 m dk os k_ hlt hk.2))⟩
 have hcmp : CmpLays Tryz.prog 41 #[] enc 2 cf g 0 2 w := by
   intro m os dk hdk a b
   obtain ⟨A0, c0, e0, h0⟩ := hcv m dk os a
   obtain ⟨A1, c1, e1, h1⟩ := hcv m dk os b
   rw [e0, e1]
   obtain ⟨rr, hrr⟩ := Option.isSome_iff_exists.1 (hall a b)
   have := modp_cmp.calls k A0 c0 (L a) (if a then y.f1 else x.f1) A1 c1 (L b) (if b then y.f1 else x.f1) rr _ h0 h1 hrr
   have hcfv : cf a b = rr := by show (modp_cmp.f k (L a) (L b)).getD 0 = rr; rw [hrr]; rfl
   rw [hcfv]
   exact this
 have eg : ∀ args w, (callFunc 41 args).run Tryz.prog w = .ok (.enter 41 args) w := enters_of Tryz.func41 (by kernel_rfl) rfl
 have hcon := AnyQ.insertionSortCmpFunc insSort 2 Tryz.isAgg46 Tryz.sizeOf46 enc (fun b => by cases b <;> rfl) (fun b v hv => by cases b <;> (simp [enc] at hv; rcases hv with rfl | rfl <;> rfl)) cf 41 #[] g 0 cap 0 2 #[false, true] w eg hcmp hH hgs (by decide) (by decide) (by decide)
 refine hcon.mono ?_
 rintro e w' ⟨rfl, n, os, rfl⟩
 have hN' := hN
 have h2 : Sort.insertionSort (ltOf cf) #[false, true] 0 2 = if (modp_cmp.f k y.f0 x.f0).getD 0 < 0 then #[true, false] else #[false, true] := by
   rw [ins2]
   by_cases hc : (modp_cmp.f k y.f0 x.f0).getD 0 < 0
   · rw [if_pos hc, if_pos]; exact decide_eq_true hc
   · rw [if_neg hc, if_neg]; intro h_; exact hc (of_decide_eq_true h_)
 refine ⟨rfl, ?_, ⟨rfl, rfl, rfl, sw_size _ _ _ _ _ _ _ _, fun i hi hn => sw_heap _ _ _ _ _ _ _ _ _ hi (fun he => hn (by rw [he]; simp [Value.ownBlock]))⟩⟩
 have hsz : (Sort.insertionSort (ltOf cf) #[false, true] 0 2).size = 2 := by rw [h2]; split <;> rfl
 have hHo := holdsK_sortWorldK_c enc 2 w g 0 #[false, true] (Sort.insertionSort (ltOf cf) #[false, true] 0 2) n os hH hgs hsz
 have hK : ∀ b : Bool, k52.K (sortWorldK enc 2 w g 0 n (Sort.insertionSort (ltOf cf) #[false, true] 0 2) os) (if b then y else x) (enc b) := by
   intro b
   cases b
   · exact k52_mk _ x hlx (Kd.F_now (Kd.F_step hgx (fun k_ hk hlt => sw_heap enc 2 w g 0 n _ os k_ hlt hk.2)))
   · exact k52_mk _ y hly (Kd.F_now (Kd.F_step hgy (fun k_ hk hlt => sw_heap enc 2 w g 0 n _ os k_ hlt hk.2)))
 generalize hW : sortWorldK enc 2 w g 0 n (Sort.insertionSort (ltOf cf) #[false, true] 0 2) os = W at hHo hK ⊢
 have hcl : ∀ (a b : Bool) , Sort.insertionSort (ltOf cf) #[false, true] 0 2 = #[a, b] → Kd.C k52 W (some ⟨g, 0, none⟩) 2 [(if a then y else x), (if b then y else x)] := by
   intro a b hab
   rw [hab] at hHo
   refine ⟨rfl, by decide, fun _ => ⟨_, rfl, fun j p hj => ?_⟩⟩
   have hlen : ∀ c : Bool, (enc c).length = 2 := fun c => by cases c <;> rfl
   have hfl : ∀ (j i : Nat) (u : Value) (c : Bool), j < 2 → (#[a, b] : Array Bool)[j]! = c → (enc c)[i]? = some u → W.cell? ((⟨g, 0, none⟩ : Addr).add (j * 2 + i)) = some u := by
     intro j i u c hj hc hu
     have hi : i < 2 := by have := (List.getElem?_eq_some_iff.1 hu).1; rw [hlen] at this; exact this
     have hlt : j * 2 + i < (flatK enc 2 #[a, b]).size := by rw [size_flatK]; show j * 2 + i < 2 * 2; omega
     have h3 := (hHo (j * 2 + i) hlt).1
     rw [add_plain]
     rw [Nat.zero_add] at h3
     rw [h3]
     show some ((flatK enc 2 #[a, b])[j * 2 + i]!) = some u
     rw [get_flatK enc 2 #[a, b] (j * 2 + i) (by show j * 2 + i < 2 * 2; omega), show (j * 2 + i) / 2 = j from by omega, show (j * 2 + i) % 2 = i from by omega, hc]
     obtain ⟨hl, he⟩ := List.getElem?_eq_some_iff.1 hu
     rw [getElem!_pos _ i hl, he]
   match j, hj with
   | 0, hj =>
     obtain rfl := Option.some.inj hj
     exact ⟨enc a, hlen a, hK a, fun i u hu => hfl 0 i u a (by decide) rfl hu⟩
   | 1, hj =>
     obtain rfl := Option.some.inj hj
     exact ⟨enc b, hlen b, hK b, fun i u hu => hfl 1 i u b (by decide) rfl hu⟩
   | j + 2, hj => simp at hj
 rw [hr]
 by_cases hc : (modp_cmp.f k y.f0 x.f0).getD 0 < 0
 · rw [if_pos hc]
   exact ⟨_, _, rfl, hcap, hcl true false (by rw [h2, if_pos hc])⟩
 · rw [if_neg hc]
   exact ⟨_, _, rfl, hcap, hcl false true (by rw [h2, if_neg hc])⟩
theorem Sorted.drewN {v : Value} {w w' : World} {r : List S52} {e : Ending} {n : Nat} (h : Sorted v (w.drewN n) r e w') : Sorted v w r e w' :=
 ⟨h.1, h.2.1, ⟨h.2.2.os, h.2.2.tape, h.2.2.output, h.2.2.kp⟩⟩
theorem one_le_of_sorted {k : Nat} {out r : List S52} (h : modp_sort.f k out = some r) : out.length ≤ 2 := by
 match out, h with
 | [], _ => decide
 | [_], _ => exact Nat.le_succ 1
 | [_, _], _ => exact Nat.le_refl 2
 | _ :: _ :: _ :: _, h => simp [modp_sort.f] at h
theorem ins_any (k base : Nat) (ok : Nat → Prop) (out r : List S52) (A : Option Addr) (cap : Nat) (w : World) (hN : Kd.N k52 46 w base ok (.slice A out.length cap) out) (h : modp_sort.f k out = some r) :
   Calls Tryz.prog 87 #[.slice A out.length cap, .int .i64 0, .int .i64 out.length, .func (.func 41) #[] #[]] w fun e w' => Sorted (.slice A out.length cap) w r e w' := by
 match out, h with
 | [], h =>
   obtain rfl := Option.some.inj h
   have HN := am hN
   clear hN h
   go_enter Tryz.func87, Tryz.ntmps87
   go_wp2
   refine wp_loop_rounds 1 ?_
   rw [rounds_succ]
   go_wp2
   go_end0
   exact ⟨rfl, ⟨A, cap, rfl, (Kd.N_reads' HN.out).2.1, (Kd.N_reads' HN.out).2.2⟩, KW.refl _ _⟩
 | [x], h =>
   obtain rfl := Option.some.inj h
   have HN := am hN
   clear hN h
   go_enter Tryz.func87, Tryz.ntmps87
   go_wp2
   refine wp_loop_rounds 1 ?_
   rw [rounds_succ]
   go_wp2
   go_end0
   exact ⟨rfl, ⟨A, cap, rfl, (Kd.N_reads' HN.out).2.1, (Kd.N_reads' HN.out).2.2⟩, KW.refl _ _⟩
 | [x, y], h =>
   obtain ⟨g, cap', hv, _⟩ := Kd.N_form hN (show 0 < 2 by decide)
   injection hv with h1 _ h2
   subst h1; subst h2
   exact ins_two k g cap base ok x y r w hN h
 | _ :: _ :: _ :: _, h => simp [modp_sort.f] at h
theorem pdq_any (k base : Nat) (ok : Nat → Prop) (out r : List S52) (A : Option Addr) (cap : Nat) (lim : Int) (w : World) (hN : Kd.N k52 46 w base ok (.slice A out.length cap) out) (h : modp_sort.f k out = some r) :
   Calls Tryz.prog 64 #[.slice A out.length cap, .int .i64 0, .int .i64 out.length, .int .i64 lim, .func (.func 41) #[] #[]] w fun e w' => Sorted (.slice A out.length cap) w r e w' := by
 have hle := one_le_of_sorted h
 have HI := am (ins_any k base ok out r A cap w hN h)
 clear hN h
 have e1 : wrap64 ((out.length : Int) - 0) = out.length := by unfold wrap64; omega
 have e2 : decide ((out.length : Int) ≤ 12) = true := decide_eq_true (by omega)
 have e3 : decide (out.length ≤ 12) = true := decide_eq_true (by omega)
 have e4 : wrap64 (out.length : Int) = out.length := by unfold wrap64; omega
 clear hle
 go_enter Tryz.func64, Tryz.ntmps64
 go_wp2
 refine wp_loop_rounds 1 ?_
 rw [rounds_succ]
 go_wp2_with (go_at_call 87; refine HI.out.mono ?_; intro e w' hs; have HS := am hs; obtain ⟨rfl, _⟩ := hs)
 (try simp only [Exit.inBlock, Exit.then]); refine bodyPost_ret (results_none rfl _ _ _) rfl ?_
 exact HS.out
theorem len_some (n : Nat) (h : n ≤ 2) : ∃ l, bits_Len.f 5 (n : Int) = some l := by
 match n, h with
 | 0, _ => exact ⟨_, rfl⟩
 | 1, _ => exact ⟨_, rfl⟩
 | 2, _ => exact ⟨_, rfl⟩
theorem modp_sort.calls (k base : Nat) (ok : Nat → Prop) (out r : List S52) (A : Option Addr) (cap : Nat) (w : World) (hN : Kd.N k52 46 w base ok (.slice A out.length cap) out) (h : modp_sort.f k out = some r) :
   Calls Tryz.prog 40 #[.slice A out.length cap, .func (.func 41) #[] #[]] w fun e w' => Sorted (.slice A out.length cap) w r e w' := by
 have hle := one_le_of_sorted h
 obtain ⟨l, hl⟩ := len_some out.length hle
 have HL := am hl
 have HP := am (fun (n : Nat) => pdq_any k base ok out r A cap l (w.drewN n) (Kd.N_drewN hN n) h)
 have e1 : IntKind.u64.wrap (out.length : Int) = out.length := by
   match out, hle with
   | [], _ => rfl
   | [_], _ => rfl
   | [_, _], _ => rfl
 clear hN h hl hle
 go_enter Tryz.func40, Tryz.ntmps40
 go_wp2_with (first | (go_at_call 65; (with_reducible refine (bits_Len.calls 5 _ l _ HL.out).mono ?_); rintro e1 w1 ⟨rfl, ⟨n1, rfl⟩⟩) | (go_at_call 64; (with_reducible refine (HP.out _).mono ?_); intro e w' hs; have HS := am hs.drewN; obtain ⟨rfl, _⟩ := hs))
 go_end0
 exact HS.out
end Go.Proofs.YtjbcnppbcomaiaaGreatDoor.Q
namespace Go.Proofs.YtjbcnppbcomaiaaGreatDoor.Q
open Go.RowKit Go.Proofs.YtjbcnppbcomaiaaGreatDoorW.PrintWords Go.Proofs.YtjbcnppbcomaiaaGreatDoorW.PrintLast Go.Proofs.YtjbcnppbcomaiaaGreatDoorW.PrintMore
attribute [local go_sem] max2_int min2_int max_two min_two max_three min_three max_four min_four
set_option linter.unusedVariables false
set_option linter.unusedSimpArgs false
structure GWat (w : World) (b o c : Nat) : Prop where
 g : w.cell? ⟨0, 0, none⟩ = some (.slice (some ⟨b, o, none⟩) 2 c)
 c0 : w.cell? ⟨b, o, none⟩ = some (.func (.func 128) #[] #[])
 c1 : w.cell? ⟨b, o + 1, none⟩ = some (.func (.func 129) #[] #[])
def GW (w : World) : Prop := ∃ b o c, GWat w b o c
theorem GWat.below {w w1 : World} {b o c : Nat} (h : GWat w b o c) (hb : Below w.heap.size w w1) : GWat w1 b o c :=
 ⟨(hb.cell (World.block_lt_of_cell? w _ h.g)).trans h.g, (hb.cell (World.block_lt_of_cell? w _ h.c0)).trans h.c0, (hb.cell (World.block_lt_of_cell? w _ h.c1)).trans h.c1⟩
theorem GW.below {w w1 : World} (h : GW w) (hb : Below w.heap.size w w1) : GW w1 := by
 obtain ⟨b, o, c, h⟩ := h
 exact ⟨b, o, c, h.below hb⟩
theorem index_way (b o c B3 : Nat) (p : Int) (hp : p < 14) (w : World) (h : GWat w b o c) (h3 : w.cell? ⟨B3, 0, none⟩ = some (.int .u32 p)) :
   Calls Tryz.prog 35 #[.slice (some ⟨b, o, none⟩) 2 c, .func (.func 36) #[] #[.pointer (some ⟨B3, 0, none⟩)]] w fun e w' => e = .returned (.int .i64 0) ∧ Below w.heap.size w w' := by
 have hc0 := h.c0
 have hc1 := h.c1
 have hp1 : decide (p < 14) = true := decide_eq_true hp
 have l3 := World.block_lt_of_cell? w _ h3
 have HB := am (Below.refl w.heap.size w)
 have hu69 := Tryz.underlying65
 clear h hp
 go_enter Tryz.func35, Tryz.ntmps35
 go_wp2
 refine wp_loop_rounds 1 ?_
 rw [rounds_succ]
 go_wp2
 go_ret
 exact ⟨rfl, below_alloc (Below.refl _ _) _⟩
theorem al_new (w : World) (o : Obj) : (w.alloc o).heap[w.heap.size]? = some o := by show (w.heap.push o)[w.heap.size]? = _; simp
theorem al_size (w : World) (o : Obj) : (w.alloc o).heap.size = w.heap.size + 1 := by show (w.heap.push o).size = _; simp
theorem al_old {w : World} {o o' : Obj} {k : Nat} (h : w.heap[k]? = some o') : (w.alloc o).heap[k]? = some o' := ((below_alloc (Below.refl _ _) o).block k (blk_lt h)).trans h
theorem run_store_func {P : Program} {w : World} {a : Addr} {m : Mode} (f : Fn) (x y : Array Value) : (store a (.func f x y) m).run P w = stored P w a (.func f x y) m := run_store P w a _ m rfl
attribute [local go_sem] run_store_func
def modp_Factor.f (k : Nat) (l : List Int) (p : Int) : Option (Int × List S52) :=
 if l.length = 0 then some (0, []) else (if (l.length : Int) > 1 then (modp_monic.f k l p).bind fun m => modp_parts.f k m p 1 [] else some []).bind fun out => (modp_sort.f k out).bind fun s => some (rd l ((l.length : Int) - 1), s)
def Facts (w : World) (r1 : Int) (r2 : List S52) (e : Ending) (w' : World) : Prop :=
 ∃ A c, e = .returned (.tuple #[.int .u32 r1, .slice A r2.length c]) ∧ r2.length ≤ c ∧ Kd.C k52 w' A r2.length r2 ∧ Below w.heap.size w w'
def modp_Factor.T5 : Bool × List (List Nat × List Nat) := (true, [([], []), ([], []), ([], []), ([1, 2], [1, 2]), ([0, 3], [0, 3]), ([4], [4]), ([], []), ([6, 5, 3, 0, 1, 2, 3, 4, 5, 6], [5, 6])])
def modp_Factor.B5 : List Nat := [0, 0, 0, 6, 15, 31, 0, 127]
theorem modp_Factor.tab5 : rtab .any (opsOf Tryz.f14 5) = modp_Factor.T5 := by kernel_rfl
theorem modp_Factor.bits5 : waitsOk modp_Factor.T5.2 modp_Factor.B5 = true := by kernel_rfl
def modp_Factor.T6 : Bool × List (List Nat × List Nat) := (true, [([], []), ([], []), ([0, 1], [0, 1]), ([], []), ([], []), ([2, 3, 4, 2], [2, 3, 4])])
def modp_Factor.B6 : List Nat := [0, 0, 3, 0, 0, 31]
theorem modp_Factor.tab6 : rtab .any (opsOf Tryz.f14 6) = modp_Factor.T6 := by kernel_rfl
theorem modp_Factor.bits6 : waitsOk modp_Factor.T6.2 modp_Factor.B6 = true := by kernel_rfl
def modp_Factor.T8 : Bool × List (List Nat × List Nat) := (true, [([], []), ([], []), ([1], [1]), ([2], [2]), ([0, 3], [0, 3]), ([4], [4]), ([], []), ([5, 0, 1, 2, 3, 4, 5], [5]), ([6, 7, 0, 1, 2, 3, 4, 5, 6, 7], [6])])
def modp_Factor.B8 : List Nat := [0, 0, 2, 6, 15, 31, 0, 63, 255]
theorem modp_Factor.tab8 : rtab .any (opsOf Tryz.f14 8) = modp_Factor.T8 := by kernel_rfl
theorem modp_Factor.bits8 : waitsOk modp_Factor.T8.2 modp_Factor.B8 = true := by kernel_rfl
theorem modp_Factor.calls (k : Nat) (A0 : Option Addr) (c0 : Nat) (l0 : List Int) (p r1 : Int) (r2 : List S52) (w : World) (hG : GW w) (hp : p < 14) (hr0 : Kd.C (Kd.int .u32) w A0 l0.length l0) (hc0 : l0.length ≤ c0) (h : modp_Factor.f k l0 p = some (r1, r2)) :
   Calls Tryz.prog 14 #[.slice A0 l0.length c0, .int .u32 p] w fun e w' => Facts w r1 r2 e w' := by
 have hu69 := Tryz.underlying65
 have HR0 := am hr0
 have HC0 := am hc0
 have HP := am hp
 have HG := am hG
 clear hr0 hc0 hp hG
 by_cases e0 : l0.length = 0
 · unfold modp_Factor.f at h
   rw [if_pos e0] at h
   have h1 := Option.some.inj h
   injection h1 with h1 h2
   subst h1; subst h2
   have e1 : ((l0.length : Int) == 0) = true := beq_iff_eq.mpr (by omega)
   go_enter Tryz.func14, Tryz.ntmps14
   go_wp2
   go_ret2
   exact ⟨none, 0, rfl, Nat.le_refl _, Kd.C_nil _ _, below_alloc (Below.refl _ _) _⟩
 unfold modp_Factor.f at h
 rw [if_neg e0] at h
 have e1 : ((l0.length : Int) == 0) = false := beq_eq_false_iff_ne.mpr (by omega)
 have e1b : ¬ (l0 = []) := fun he => e0 (by rw [he]; rfl)
 by_cases e2 : (l0.length : Int) > 1
 case neg =>
   rw [if_neg e2] at h
   have e2a : decide ((l0.length : Int) > 1) = false := decide_eq_false e2
   have e2b : decide (1 < (l0.length : Int)) = false := decide_eq_false e2
   have e2c : decide (1 < l0.length) = false := decide_eq_false (by omega)
   obtain ⟨out, ho, h⟩ := Option.bind_eq_some_iff.1 h
   obtain ⟨s, hs, h⟩ := Option.bind_eq_some_iff.1 h
   have ho' := Option.some.inj ho
   have h1 := Option.some.inj h
   injection h1 with h1 h2
   subst h2
   clear h ho
   have hN5 : Kd.N k52 46 ((w.alloc (Obj.cells #[Value.int IntKind.u32 p] 23)).alloc (Obj.cells #[Value.slice none 0 0] 34)) w.heap.size (fun k => k ≠ w.heap.size + 1) (.slice none 0 0) [] := Kd.N_nil _ _ _ _ _
   have hcall : Calls Tryz.prog 40 #[.slice none 0 0, .func (.func 41) #[] #[]] ((w.alloc (Obj.cells #[Value.int IntKind.u32 p] 23)).alloc (Obj.cells #[Value.slice none 0 0] 34)) fun e w' => Sorted (.slice none 0 0) ((w.alloc (Obj.cells #[Value.int IntKind.u32 p] 23)).alloc (Obj.cells #[Value.slice none 0 0] 34)) s e w' := modp_sort.calls k _ _ [] s none 0 _ hN5 (by rw [ho']; exact hs)
   have hx6 : ((w.alloc (Obj.cells #[Value.int IntKind.u32 p] 23)).alloc (Obj.cells #[Value.slice none 0 0] 34)).cell? ⟨w.heap.size + 1, 0, none⟩ = some (.slice none 0 0) := by have h_ := al_new (w.alloc (Obj.cells #[Value.int IntKind.u32 p] 23)) (Obj.cells #[Value.slice none 0 0] 34); rw [al_size] at h_; simp only [World.cell?, h_]; rfl
   have B0 := am (below_alloc (below_alloc (Below.refl w.heap.size w) (Obj.cells #[Value.int IntKind.u32 p] 23)) (Obj.cells #[Value.slice none 0 0] 34))
   have HB5 : Aside0 (((w.alloc (Obj.cells #[Value.int IntKind.u32 p] 23)).alloc (Obj.cells #[Value.slice none 0 0] 34)).heap[w.heap.size + 1]? = some (.cells #[.slice none 0 0] 34 (0, 0))) := ⟨by have h_ := al_new (w.alloc (Obj.cells #[Value.int IntKind.u32 p] 23)) (Obj.cells #[Value.slice none 0 0] 34); rwa [al_size] at h_⟩
   have HK5 : Aside0 (KW w ((w.alloc (Obj.cells #[Value.int IntKind.u32 p] 23)).alloc (Obj.cells #[Value.slice none 0 0] 34)) (fun k_ => w.heap.size ≤ k_)) := ⟨KW.of_below B0.out _⟩
   have HN5 := am hN5
   clear hN5 hs
   go_enter Tryz.func14, Tryz.ntmps14
   go_wp2_with (go_at_call 40; (with_reducible refine hcall.mono ?_); rintro e6 w6 ⟨rfl, hC6, hk6⟩; have HC6 := am hC6; have HK6 := am hk6; clear hC6 hk6 hcall)
   obtain ⟨A6, c6, ev6, hc6, hC6⟩ := HC6.out
   injection ev6 with hA6 hl6 hc6'
   have HL6 := am hl6
   clear hl6
   subst hA6; subst hc6'
   have HC6' := am (And.intro hc6 hC6)
   clear hc6 hC6 HC6
   have HB6 := am ((HK6.out.kp.2 _ (blk_lt HB5.out) (Kd.N_ne HN5.out HB5.out (by decide))).trans HB5.out)
   have HKW := am (HK5.out.then_ HK6.out (fun k_ h_ => .inl (Kd.N_base HN5.out k_ h_.symm)))
   have HBL := am (HKW.out.below_of (fun _ h_ => h_))
   have HR6 : Aside0 (Kd.C (Kd.int .u32) w6 A0 l0.length l0) := ⟨Kd.C_below HR0.out HBL.out⟩
   have hmx : l0.length ≤ 9223372036854775807 := HR0.out.2.1
   obtain ⟨ji8, hji8⟩ : ∃ j_ : Int, wrap64 ((l0.length : Int) - 1) = j_ := ⟨_, rfl⟩
   have hji8e : (l0.length : Int) - 1 = ji8 := by rw [← hji8]; unfold wrap64; omega
   have hji8w : IntKind.i64.wrap ((l0.length : Int) - 1) = ji8 := (i64_w _).trans hji8
   have p8 : 0 ≤ ji8 := by omega
   have q8 : ji8 < (l0.length : Int) := by omega
   obtain ⟨ad8, e8, hx8⟩ := Kd.at_int HR6.out ji8 p8 q8
   rw [hji8e] at h1
   rw [h1] at hx8
   cases e8
   have HX8 := am hx8
   have p8b := eq_true p8
   have q8b := eq_true q8
   have p8c : decide (0 ≤ ji8) = true := decide_eq_true p8
   have q8c : decide (ji8 < (l0.length : Int)) = true := decide_eq_true q8
   clear hji8e p8 q8
   clear hmx hx6
   refine start_ (n := 9) (S := fun w' => Below w6.heap.size w6 w') (ds := []) (bm 9 0) (by kernel_rfl) rfl rfl (below_drew1 (Below.refl _ _)) (fun hHeld => ?_); refine with_tabW modp_Factor.tab8 modp_Factor.bits8 (fun HT_ HW_ => ?_)
   have HWD := am (below_drew1 (Below.refl w6.heap.size w6))
   generalize w6.drew = wd at hHeld HWD ⊢
   refine pureB (N := some 28) 0 (bm 9 1) ?_
   refine pureB (N := some 29) 1 (bm 9 3) ?_
   refine pureB (N := some 30) 2 (bm 9 7) ?_
   refine pureB (N := some 31) 3 (bm 9 15) ?_
   refine pureB (N := some 32) 4 (bm 9 31) ?_
   refine take_ (i := 5) (N := some 33) (v := ?_) (a' := ?_) (bm 9 63) rfl rfl (take_ofW HT_.out HW_.out (by kernel_rfl)) (fun _ _ _ h => h) (Or.inl ⟨by rfl, ?_⟩) hHeld ?_ ?_
   rotate_left
   · intro w' hS_
     have q_ := (hS_.cell (World.block_lt_of_cell? _ _ HX8.out)).trans HX8.out
     go_simp
     with_reducible rfl
   rotate_left
   · exact actp
   refine take_ (i := 6) (N := some 34) (v := ?_) (a' := ?_) (bm 9 127) rfl rfl (take_ofW HT_.out HW_.out (by kernel_rfl)) (fun _ _ _ h => h) (Or.inl ⟨by rfl, ?_⟩) hHeld ?_ ?_
   rotate_left
   · intro w' hS_
     have q_ : w'.cell? ⟨w.heap.size + 1, 0, none⟩ = some (.slice none 0 0) := by have q1_ := (hS_.block _ (blk_lt HB6.out)).trans HB6.out; simp [World.cell?, q1_]
     go_simp
     with_reducible rfl
   rotate_left
   · exact actp
   refine pureB (N := some 4) 7 (bm 9 255) ?_
   refine pureB (N := some 5) 8 (bm 9 511) ?_
   refine done_ (done_of HT_.out (by kernel_rfl)) ?_
   go_wp2
   go_ret2
   exact ⟨none, 0, by rw [← HL6.out]; rfl, HC6'.out.1, Kd.C_below HC6'.out.2 HWD.out, below_step HBL.out HWD.out⟩
 rw [if_pos e2] at h
 have e2a : decide ((l0.length : Int) > 1) = true := decide_eq_true e2
 have e2b : decide (1 < (l0.length : Int)) = true := decide_eq_true e2
 have e2c : decide (1 < l0.length) = true := decide_eq_true (by omega)
 obtain ⟨out, ho, h⟩ := Option.bind_eq_some_iff.1 h
 obtain ⟨m, hm, ho⟩ := Option.bind_eq_some_iff.1 ho
 obtain ⟨s, hs, h⟩ := Option.bind_eq_some_iff.1 h
 have h1 := Option.some.inj h
 injection h1 with h1 h2
 subst h2
 have HM := am hm
 have HPT := am ho
 have HS := am hs
 clear h hm ho hs
 go_enter Tryz.func14, Tryz.ntmps14
 go_wp2
 have B0 := am (below_alloc (below_alloc (Below.refl w.heap.size w) (Obj.cells #[Value.int IntKind.u32 p] 23)) (Obj.cells #[Value.slice none 0 0] 34))
 have h3 : ((w.alloc (Obj.cells #[Value.int IntKind.u32 p] 23)).alloc (Obj.cells #[Value.slice none 0 0] 34)).heap[w.heap.size]? = some (.cells #[.int .u32 p] 23 (0, 0)) := al_old (al_new w _)
 have h6 : ((w.alloc (Obj.cells #[Value.int IntKind.u32 p] 23)).alloc (Obj.cells #[Value.slice none 0 0] 34)).heap[w.heap.size + 1]? = some (.cells #[.slice none 0 0] 34 (0, 0)) := by have h_ := al_new (w.alloc (Obj.cells #[Value.int IntKind.u32 p] 23)) (Obj.cells #[Value.slice none 0 0] 34); rwa [al_size] at h_
 have hz0 : ((w.alloc (Obj.cells #[Value.int IntKind.u32 p] 23)).alloc (Obj.cells #[Value.slice none 0 0] 34)).heap.size = w.heap.size + 2 := by rw [al_size, al_size]
 generalize ((w.alloc (Obj.cells #[Value.int IntKind.u32 p] 23)).alloc (Obj.cells #[Value.slice none 0 0] 34)) = w0 at B0 h3 h6 hz0 ⊢
 obtain ⟨gb, go, gc, hg⟩ := HG.out
 have HGA := am (hg.below B0.out)
 have H3 := am h3
 have H6 := am h6
 have HZ0 := am hz0
 clear h3 h6 hz0 hg
 refine start_ (n := 8) (S := fun w' => Below w0.heap.size w0 w') (ds := [7]) (bm 8 0) (by kernel_rfl) rfl rfl (below_drew1 (Below.refl _ _)) (fun hHeld => ?_); refine with_tabW modp_Factor.tab5 modp_Factor.bits5 (fun HT_ HW_ => ?_)
 generalize w0.drew = wd at hHeld ⊢
 refine pureB (N := some 16) 2 (bm 8 4) ?_
 refine take_ (i := 0) (N := some 14) (v := ?_) (a' := ?_) (bm 8 5) rfl rfl (take_ofW HT_.out HW_.out (by kernel_rfl)) (fun _ _ _ h => h) (Or.inl ⟨by rfl, ?_⟩) hHeld ?_ ?_
 rotate_left
 · intro w' hS_
   have q_ := (HGA.out.below hS_).g
   go_simp
   with_reducible rfl
 rotate_left
 · exact actp
 refine take_ (i := 1) (N := some 15) (v := ?_) (a' := ?_) (bm 8 7) rfl rfl (take_ofW HT_.out HW_.out (by kernel_rfl)) (fun _ _ _ h => h) (Or.inl ⟨by rfl, ?_⟩) hHeld ?_ ?_
 rotate_left
 · intro w' hS_
   have q_ := (HGA.out.below hS_).g
   go_simp
   with_reducible rfl
 rotate_left
 · exact actp
 refine join_ (σ := Nat) 1 (bm 8 127) (fun s_ => [(17, .int .i64 0), (7, .pointer (some ⟨s_, 0, none⟩)), (18, .pointer (some ⟨gb, go, none⟩)), (19, .agg wayA)]) (fun s_ w' => Below w0.heap.size w0 w' ∧ w0.heap.size ≤ s_ ∧ w'.heap[s_]? = some (.cells #[.nilFunc, .nilFunc] 65 (0, 0))) ?_ ?_
 rotate_left
 · intro hCont
   refine two_ (i := 3) (j := 6) (Ni := some 17) (Nj := some 7) (bm 8 15) (bm 8 71) rfl rfl rfl rfl (two_of HT_.out (by kernel_rfl)) (by decide) (by decide) (fun K hK => ?_) (fun K hK => ?_)
   · skip
     refine goes_ Tryz.func35 (by kernel_rfl) rfl #[.slice (some ⟨gb, go, none⟩) 2 gc, .func (.func 36) #[] #[.pointer (some ⟨w.heap.size, 0, none⟩)]] (by rfl) rfl rfl aM ?_
     refine (index_way gb go gc w.heap.size p HP.out _ (HGA.out.below hHeld) (by have q_ := (hHeld.block _ (blk_lt H3.out)).trans H3.out; simp [World.cell?, q_])).mono ?_
     rintro e1 w1 ⟨rfl, hb⟩
     refine ⟨_, rfl, ?_⟩
     have hb1 := below_step hHeld hb
     refine hK.out _ _ hb1 (fun hHeld1 => ?_)
     clear hK K
     refine norm_ (a' := ?_) ?_ ?_
     rotate_left
     · show Act.put _ (some 17) _ = _; exact actp
     refine pureB (N := some 18) 4 (bm 8 31) ?_
     refine take_ (i := 5) (N := some 19) (v := ?_) (a' := ?_) (bm 8 63) rfl rfl (take_ofW HT_.out HW_.out (by kernel_rfl)) (fun _ _ _ h => h) (Or.inl ⟨by rfl, ?_⟩) hHeld1 ?_ ?_
     rotate_left
     · intro w' hS_
       have q0_ := (HGA.out.below hS_).c0
       have q1_ := (HGA.out.below hS_).c1
       go_simp
       with_reducible rfl
     rotate_left
     · exact actp
     refine one_ (i := 6) (N := some 7) (bm 8 127) rfl rfl (one_of HT_.out (by kernel_rfl)) (by decide) (fun K hK => ?_)
     refine value_ (w1 := w1.alloc (.cells #[.nilFunc, .nilFunc] 65)) (v := .pointer (some ⟨w1.heap.size, 0, none⟩)) (by rfl) rfl (by go_simp; first | done | rfl) ?_
     refine hK.out _ _ (below_alloc hHeld1 _) (fun hHeld2 => ?_)
     clear hK K
     refine norm_ (a' := ?_) ?_ ?_
     rotate_left
     · show Act.put _ (some 7) _ = _; exact actp
     exact norm_ (by simp only [putAll, Act.put, List.setIfInBounds_toArray, List.set_cons_zero, List.set_cons_succ]) (hCont w1.heap.size _ ⟨hHeld2, hHeld1.size, al_new _ _⟩)
   · skip
     refine value_ (w1 := wd.alloc (.cells #[.nilFunc, .nilFunc] 65)) (v := .pointer (some ⟨wd.heap.size, 0, none⟩)) (by rfl) rfl (by go_simp; first | done | rfl) ?_
     have hl7 : (wd.alloc (.cells #[.nilFunc, .nilFunc] 65)).heap[wd.heap.size]? = some (.cells #[.nilFunc, .nilFunc] 65 (0, 0)) := al_new _ _
     refine hK.out _ _ (below_alloc hHeld _) (fun hHeld1 => ?_)
     clear hK K
     refine norm_ (a' := ?_) ?_ ?_
     rotate_left
     · show Act.put _ (some 7) _ = _; exact actp
     refine one_ (i := 3) (N := some 17) (bm 8 79) rfl rfl (one_of HT_.out (by kernel_rfl)) (by decide) (fun K hK => ?_)
     refine goes_ Tryz.func35 (by kernel_rfl) rfl #[.slice (some ⟨gb, go, none⟩) 2 gc, .func (.func 36) #[] #[.pointer (some ⟨w.heap.size, 0, none⟩)]] (by rfl) rfl rfl aM ?_
     refine (index_way gb go gc w.heap.size p HP.out _ (HGA.out.below hHeld1) (by have q_ := (hHeld1.block _ (blk_lt H3.out)).trans H3.out; simp [World.cell?, q_])).mono ?_
     rintro e1 w1 ⟨rfl, hb⟩
     refine ⟨_, rfl, ?_⟩
     have hb1 := below_step hHeld1 hb
     refine hK.out _ _ hb1 (fun hHeld2 => ?_)
     clear hK K
     refine norm_ (a' := ?_) ?_ ?_
     rotate_left
     · show Act.put _ (some 17) _ = _; exact actp
     refine pureB (N := some 18) 4 (bm 8 95) ?_
     refine take_ (i := 5) (N := some 19) (v := ?_) (a' := ?_) (bm 8 127) rfl rfl (take_ofW HT_.out HW_.out (by kernel_rfl)) (fun _ _ _ h => h) (Or.inl ⟨by rfl, ?_⟩) hHeld2 ?_ ?_
     rotate_left
     · intro w' hS_
       have q0_ := (HGA.out.below hS_).c0
       have q1_ := (HGA.out.below hS_).c1
       go_simp
       with_reducible rfl
     rotate_left
     · exact actp
     exact norm_ (by simp only [putAll, Act.put, List.setIfInBounds_toArray, List.set_cons_zero, List.set_cons_succ]) (hCont wd.heap.size _ ⟨hHeld2, hHeld.size, (hb.block _ (blk_lt hl7)).trans hl7⟩)
 · rintro B7 w1 ⟨HW1, HB7, h7⟩
   refine norm_ (a' := ?_) ?_ ?_
   rotate_left
   · simp only [putAll, Act.put, List.setIfInBounds_toArray, List.set_cons_zero, List.set_cons_succ, i64_w, i32_w]
     rfl
   have hx7a : w1.cell? ⟨B7, 0, none⟩ = some .nilFunc := by simp [World.cell?, h7]
   have hx7b : w1.cell? ⟨B7, 1, none⟩ = some .nilFunc := by simp [World.cell?, h7]
   have hf7a : w1.frozen? ⟨B7, 0, none⟩ = false := blk_frozen h7 _
   have hf7b : w1.frozen? ⟨B7, 1, none⟩ = false := blk_frozen h7 _
   refine last_ (i := 7) (N := none) (bm 8 255) rfl rfl (one_of HT_.out (by kernel_rfl)) (by decide) (fun K hK => ?_)
   refine skip_ (w1 := ?_) (by rfl) rfl ?_ ?_
   rotate_left
   · go_simp
     rfl
   refine hK.out _ _ ?_
   clear hK K
   refine done_ (done_of HT_.out (by kernel_rfl)) ?_
   have H7 : Aside0 (((w1.setCell ⟨B7, 0, none⟩ (.func (.func 128) #[] #[])).setCell ⟨B7, 1, none⟩ (.func (.func 129) #[] #[])).heap[B7]? = some (.cells wayA 65 (0, 0))) := ⟨blk_put (cs := #[.func (.func 128) #[] #[], .nilFunc]) (blk_put (cs := #[.nilFunc, .nilFunc]) h7 0 _ rfl) 1 _ rfl⟩
   have HB2 : Aside0 (Below w0.heap.size w0 ((w1.setCell ⟨B7, 0, none⟩ (.func (.func 128) #[] #[])).setCell ⟨B7, 1, none⟩ (.func (.func 129) #[] #[]))) := ⟨below_set (below_set HW1 HB7) HB7⟩
   clear hx7a hx7b hf7a hf7b h7 HW1 hHeld
   generalize ((w1.setCell ⟨B7, 0, none⟩ (.func (.func 128) #[] #[])).setCell ⟨B7, 1, none⟩ (.func (.func 129) #[] #[])) = w2 at H7 HB2 ⊢
   have HO2 : Aside0 (OS w.heap.size (w.heap.size + 1) B7 p w.heap.size w2 (.slice none 0 0) []) := ⟨⟨(HB2.out.block _ (blk_lt H3.out)).trans H3.out, (HB2.out.block _ (blk_lt H6.out)).trans H6.out, H7.out, Kd.N_nil _ _ _ _ _⟩⟩
   have HK2 : Aside0 (KW w w2 (fun k_ => w.heap.size ≤ k_)) := ⟨((KW.of_below B0.out _).below HB2.out)⟩
   clear H7 HB2 HG HGA H3 H6
   have HR2 : Aside0 (Kd.C (Kd.int .u32) w2 A0 l0.length l0) := ⟨Kd.C_below HR0.out (HK2.out.below_of (fun _ h_ => h_))⟩
   go_wp2
   refine start_ (n := 6) (S := fun w' => Below w2.heap.size w2 w') (ds := [5]) (bm 6 0) (by kernel_rfl) rfl rfl (below_drew1 (Below.refl _ _)) (fun hHeld => ?_); refine with_tabW modp_Factor.tab6 modp_Factor.bits6 (fun HT_ HW_ => ?_)
   generalize w2.drew = wd at hHeld ⊢
   refine pureB (N := some 20) 0 (bm 6 1) ?_
   refine take_ (i := 1) (N := some 21) (v := ?_) (a' := ?_) (bm 6 3) rfl rfl (take_ofW HT_.out HW_.out (by kernel_rfl)) (fun _ _ _ h => h) (Or.inl ⟨by rfl, ?_⟩) hHeld ?_ ?_
   rotate_left
   · intro w' hS_
     have q_ : w'.cell? ⟨w.heap.size, 0, none⟩ = some (.int .u32 p) := by have q1_ := (HO2.out.below hS_).b3; simp [World.cell?, q1_]
     go_simp
     with_reducible rfl
   rotate_left
   · exact actp
   refine take_ (i := 3) (N := some 23) (v := ?_) (a' := ?_) (bm 6 11) rfl rfl (take_ofW HT_.out HW_.out (by kernel_rfl)) (fun _ _ _ h => h) (Or.inl ⟨by rfl, ?_⟩) hHeld ?_ ?_
   rotate_left
   · intro w' hS_
     have q_ : w'.cell? ⟨w.heap.size, 0, none⟩ = some (.int .u32 p) := by have q1_ := (HO2.out.below hS_).b3; simp [World.cell?, q1_]
     go_simp
     with_reducible rfl
   rotate_left
   · exact actp
   refine pureB (N := some 24) 4 (bm 6 27) ?_
   refine one_ (i := 2) (N := some 22) (bm 6 31) rfl rfl (one_of HT_.out (by kernel_rfl)) (by decide) (fun K hK => ?_)
   refine goes_ Tryz.func38 (by kernel_rfl) rfl #[.slice A0 l0.length c0, .int .u32 p] (by rfl) rfl rfl aM ?_
   (with_reducible refine (modp_monic.calls k _ _ l0 p m _ (Kd.C_below HR2.out hHeld) HC0.out HM.out).mono ?_)
   rintro e3 w3 ⟨v3, rfl, h0, hb⟩
   refine ⟨_, rfl, ?_⟩
   have hb3 := below_step hHeld hb
   have HM3 := am (VS.new h0 (HO2.out.below hHeld))
   have HO3 := am (HO2.out.below hb3)
   have HK3 := am (HK2.out.below hb3)
   clear h0 hb
   obtain ⟨Am, cm, em⟩ := Kd.V_slice HM3.out
   subst em
   refine hK.out _ _ hb3 (fun hHeld1 => ?_)
   clear hK K hb3 hHeld hHeld1
   refine norm_ (a' := ?_) ?_ ?_
   rotate_left
   · show Act.put _ (some 22) _ = _; exact actp
   refine last_ (i := 5) (N := some 25) (bm 6 63) rfl rfl (one_of HT_.out (by kernel_rfl)) (by decide) (fun K hK => ?_)
   refine goes_ Tryz.func37 (by kernel_rfl) rfl #[.slice Am m.length cm, .int .u32 p, .int .i64 1, .func (.func 39) #[] #[.pointer (some ⟨B7, 0, none⟩), .pointer (some ⟨w.heap.size, 0, none⟩), .pointer (some ⟨w.heap.size + 1, 0, none⟩)]] (by rfl) rfl rfl aM ?_
   refine (modp_parts.calls k k (Nat.le_refl _) _ _ m p 1 w.heap.size (w.heap.size + 1) B7 w.heap.size _ [] out _ HO3.out (Nat.le_succ _) HM3.out HPT.out).mono ?_
   rintro e5 w5 ⟨rfl, v5, hO5, hat5, hk5⟩
   refine ⟨_, rfl, ?_⟩
   have HO5 := am hO5
   have HK5 := am (HK3.out.then_ hk5 (fun k_ h_ => .inl (h_.elim (fun e_ => by rw [e_]; exact Nat.le_succ _) (fun e_ => by simp [Value.ownBlock] at e_))))
   clear hO5 hat5 hk5
   refine hK.out _ _ ?_
   clear hK K
   refine norm_ (a' := ?_) ?_ ?_
   rotate_left
   · show Act.put _ (some 25) _ = _; exact actp
   refine done_ (done_of HT_.out (by kernel_rfl)) ?_
   clear HT_ HW_
   obtain ⟨A5, c5, ev5⟩ := Kd.N_slice HO5.out.row
   subst ev5
   have HN5 := am HO5.out.row
   have HB5 := am HO5.out.b6
   have hx6 : w5.cell? ⟨w.heap.size + 1, 0, none⟩ = some (.slice A5 out.length c5) := by simp [World.cell?, HB5.out]
   go_wp2_with (go_at_call 40; (with_reducible refine (modp_sort.calls k _ _ out s _ _ _ HN5.out HS.out).mono ?_); rintro e6 w6 ⟨rfl, hC6, hk6⟩; have HC6 := am hC6; have HK6 := am hk6; clear hC6 hk6)
   obtain ⟨A6, c6, ev6, hc6, hC6⟩ := HC6.out
   injection ev6 with hA6 hl6 hc6'
   have HL6 := am hl6
   clear hl6
   subst hA6; subst hc6'
   have HC6' := am (And.intro hc6 hC6)
   clear hc6 hC6 HC6
   have HB6 := am ((HK6.out.kp.2 _ (blk_lt HB5.out) (Kd.N_ne HN5.out HB5.out (by decide))).trans HB5.out)
   have HKW := am (HK5.out.then_ HK6.out (fun k_ h_ => .inl (Kd.N_base HN5.out k_ h_.symm)))
   have HBL := am (HKW.out.below_of (fun _ h_ => h_))
   have HR6 : Aside0 (Kd.C (Kd.int .u32) w6 A0 l0.length l0) := ⟨Kd.C_below HR0.out HBL.out⟩
   have hmx : l0.length ≤ 9223372036854775807 := HR0.out.2.1
   obtain ⟨ji8, hji8⟩ : ∃ j_ : Int, wrap64 ((l0.length : Int) - 1) = j_ := ⟨_, rfl⟩
   have hji8e : (l0.length : Int) - 1 = ji8 := by rw [← hji8]; unfold wrap64; omega
   have hji8w : IntKind.i64.wrap ((l0.length : Int) - 1) = ji8 := (i64_w _).trans hji8
   have p8 : 0 ≤ ji8 := by omega
   have q8 : ji8 < (l0.length : Int) := by omega
   obtain ⟨ad8, e8, hx8⟩ := Kd.at_int HR6.out ji8 p8 q8
   rw [hji8e] at h1
   rw [h1] at hx8
   cases e8
   have HX8 := am hx8
   have p8b := eq_true p8
   have q8b := eq_true q8
   have p8c : decide (0 ≤ ji8) = true := decide_eq_true p8
   have q8c : decide (ji8 < (l0.length : Int)) = true := decide_eq_true q8
   clear hji8e p8 q8
   clear hmx hx6
   refine start_ (n := 9) (S := fun w' => Below w6.heap.size w6 w') (ds := []) (bm 9 0) (by kernel_rfl) rfl rfl (below_drew1 (Below.refl _ _)) (fun hHeld => ?_); refine with_tabW modp_Factor.tab8 modp_Factor.bits8 (fun HT_ HW_ => ?_)
   have HWD := am (below_drew1 (Below.refl w6.heap.size w6))
   generalize w6.drew = wd at hHeld HWD ⊢
   refine pureB (N := some 28) 0 (bm 9 1) ?_
   refine pureB (N := some 29) 1 (bm 9 3) ?_
   refine pureB (N := some 30) 2 (bm 9 7) ?_
   refine pureB (N := some 31) 3 (bm 9 15) ?_
   refine pureB (N := some 32) 4 (bm 9 31) ?_
   refine take_ (i := 5) (N := some 33) (v := ?_) (a' := ?_) (bm 9 63) rfl rfl (take_ofW HT_.out HW_.out (by kernel_rfl)) (fun _ _ _ h => h) (Or.inl ⟨by rfl, ?_⟩) hHeld ?_ ?_
   rotate_left
   · intro w' hS_
     have q_ := (hS_.cell (World.block_lt_of_cell? _ _ HX8.out)).trans HX8.out
     go_simp
     with_reducible rfl
   rotate_left
   · exact actp
   refine take_ (i := 6) (N := some 34) (v := ?_) (a' := ?_) (bm 9 127) rfl rfl (take_ofW HT_.out HW_.out (by kernel_rfl)) (fun _ _ _ h => h) (Or.inl ⟨by rfl, ?_⟩) hHeld ?_ ?_
   rotate_left
   · intro w' hS_
     have q_ : w'.cell? ⟨w.heap.size + 1, 0, none⟩ = some (.slice A5 out.length c5) := by have q1_ := (hS_.block _ (blk_lt HB6.out)).trans HB6.out; simp [World.cell?, q1_]
     go_simp
     with_reducible rfl
   rotate_left
   · exact actp
   refine pureB (N := some 4) 7 (bm 9 255) ?_
   refine pureB (N := some 5) 8 (bm 9 511) ?_
   refine done_ (done_of HT_.out (by kernel_rfl)) ?_
   go_wp2
   go_ret2
   exact ⟨A5, c5, by rw [← HL6.out]; rfl, HC6'.out.1, Kd.C_below HC6'.out.2 HWD.out, below_step HBL.out HWD.out⟩
def modp_Irred.f (k : Nat) (l : List Int) (p : Int) : Option Bool :=
 (modp_Factor.f k l p).map fun r => decide ((l.length : Int) > 1) && (r.2.length : Int) == 1 && (rd_T52 r.2 0).f1 == 1
theorem modp_Irred.calls (k : Nat) (A0 : Option Addr) (c0 : Nat) (l0 : List Int) (p : Int) (r : Bool) (w : World) (hG : GW w) (hp : p < 14) (hr0 : Kd.C (Kd.int .u32) w A0 l0.length l0) (hc0 : l0.length ≤ c0) (h : modp_Irred.f k l0 p = some r) :
   Calls Tryz.prog 19 #[.slice A0 l0.length c0, .int .u32 p] w fun e w' => e = .returned (.bool r) ∧ Below w.heap.size w w' := by
 obtain ⟨⟨r1, r2⟩, hF, h⟩ := Option.map_eq_some_iff.1 h
 have hcall := modp_Factor.calls k A0 c0 l0 p r1 r2 w hG hp hr0 hc0 hF
 have hm : l0.length ≤ 9223372036854775807 := hr0.2.1
 clear hG hr0 hF
 by_cases g1 : (l0.length : Int) > 1
 case neg =>
   have g1a : decide ((l0.length : Int) > 1) = false := decide_eq_false g1
   have g1b : decide (1 < (l0.length : Int)) = false := decide_eq_false g1
   go_enter Tryz.func19, Tryz.ntmps19
   go_wp2_with (go_at_call 14; (with_reducible refine hcall.mono ?_); rintro e1 w1 ⟨A1, c1, rfl, hc1, hC1, hb1⟩; have HC1 := am hC1; have HB1 := am hb1; clear hC1 hb1 hcall)
   go_ret
   exact ⟨by rw [← h, g1a]; rfl, HB1.out⟩
 have g1a : decide ((l0.length : Int) > 1) = true := decide_eq_true g1
 have g1b : decide (1 < (l0.length : Int)) = true := decide_eq_true g1
 by_cases g2 : (r2.length : Int) = 1
 case neg =>
   have g2a : ((r2.length : Int) == 1) = false := beq_eq_false_iff_ne.mpr g2
   go_enter Tryz.func19, Tryz.ntmps19
   go_wp2_with (go_at_call 14; (with_reducible refine hcall.mono ?_); rintro e1 w1 ⟨A1, c1, rfl, hc1, hC1, hb1⟩; have HC1 := am hC1; have HB1 := am hb1; clear hC1 hb1 hcall)
   go_ret
   exact ⟨by rw [← h, g1a, g2a]; rfl, HB1.out⟩
 have g2a : ((r2.length : Int) == 1) = true := beq_iff_eq.mpr g2
 have g2n : r2.length = 1 := by omega
 go_enter Tryz.func19, Tryz.ntmps19
 go_wp2_with (go_at_call 14; (with_reducible refine hcall.mono ?_); rintro e1 w1 ⟨A1, c1, rfl, hc1, hC1, hb1⟩; obtain ⟨ad, A2, c2, e2, hx0, hx1, hl2, hi2⟩ := at_T52 hC1 0 (by decide) (by omega); cases e2; have hx2 : w1.cell? ⟨ad.block, ad.off + 1, none⟩ = some (.int .i64 (rd_T52 r2 0).f1) := hx1; generalize (rd_T52 r2 0).f1 = g at h hx2; have HB1 := am hb1; clear hC1 hb1 hcall hi2 hx0 hx1 hl2)
 go_ret
 exact ⟨by rw [← h, g1a, g2a]; rfl, HB1.out⟩
end Go.Proofs.YtjbcnppbcomaiaaGreatDoor.Q
