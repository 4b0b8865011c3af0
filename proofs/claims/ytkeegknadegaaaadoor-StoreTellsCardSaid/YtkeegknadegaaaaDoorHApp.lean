/-
  store.Append, by hand: the record in a row of the call's own; then both rows in a new one.
-/
import Derived.Test.YtkeegknadegaaaaDoorSApp
import Derived.Outline
import Derived.Deep.RegionHeld3
import Derived.Deep.AppendLies
import Derived.Lib.AppendStr
import Derived.StillTactics
namespace Go.Proofs.YtkeegknadegaaaaDoor.Q
open Go.RowKit Go.Proofs.YtkeegknadegaaaaDoor.S Go.Proofs.YtkeegknadegaaaaDoorW.PrintWords Go.Proofs.YtkeegknadegaaaaDoorW.PrintLast Go.Proofs.YtkeegknadegaaaaDoorW.PrintMore
set_option linter.unusedVariables false
set_option linter.unusedSimpArgs false

theorem may_is (n t : ByteArray) : store_may.f (n.size : Int) (t.size : Int) = some (mayB n t) := by
  unfold store_may.f mayB
  by_cases h1 : 1 ≤ n.size
  · rw [if_pos (by omega)]
    by_cases h2 : n.size ≤ 20
    · rw [if_pos (by omega)]; simp [h1, h2]; omega
    · rw [if_neg (by omega)]; simp [h2]
  · rw [if_neg (by omega)]; simp [h1]

set_option maxHeartbeats 4000000 in
set_option maxRecDepth 100000 in
theorem append_bad (A0 : Option Addr) (c0 : Nat) (l0 : List Int) (n t : ByteArray) (w : World) (hm : mayB n t = false) :
    Calls Tryd.prog 12 #[.slice A0 l0.length c0, .agg #[.string n, .string t]] w fun e w' => e = .returned (.tuple #[.slice none 0 0, .int .i64 1]) ∧ Below w.heap.size w w' := by
  have hmay := may_is n t
  rw [hm] at hmay
  have HM := Aside0.mk hmay
  clear hmay hm
  go_enter Tryd.func12, Tryd.ntmps12
  go_wp2_with (go_at_call 24; refine (store_may.calls _ _ _ _ HM.out).mono ?_; rintro e w1 ⟨rfl, ⟨nd, rfl⟩⟩)
  refine bodyPost_ret (v := .tuple #[.slice none 0 0, .int .i64 1]) (by simp [results, Tryd.results12, go_sem]) rfl ⟨rfl, by repeat (first | exact Below.refl _ _ | apply below_alloc | apply pw_below_drewN | apply below_drew1)⟩
section
variable {P : Program} {ops : Array Oper} {o : Oper} {a : Act} {K : Act → World → Prop} {Q : Exit → Act → World → Prop} {E : Prop} {W : World}
theorem row_slice {base e n : Nat} {v : Value} {xs : List Value} (h : W.ownsRow base e 1 v n xs) (h0 : 0 < n) : ∃ g cap, v = .slice (some ⟨g, 0, none⟩) n cap := by
  rcases h.2 with ⟨rfl, h2⟩ | ⟨g, cap, cur, h2, _⟩
  · exfalso; omega
  · exact ⟨g, cap, h2⟩
theorem row_none {k : IntKind} {w : World} {A : Option Addr} {l : List Int} (h : Kd.C (Kd.int k) w A l.length l) : A = none → l.length = 0 ∧ l.length = 0 := by
  intro e
  have : ¬ 0 < l.length := fun h0 => by
    obtain ⟨ad, e1, _⟩ := h.2.2 h0
    rw [e] at e1; cases e1
  omega
theorem row_cells {k : IntKind} {w : World} {A : Option Addr} {l : List Int} (h : Kd.C (Kd.int k) w A l.length l) : ∀ b, A = some b → ∀ j u, (nums k l)[j]? = some u → w.cell? (b.add j) = some u := by
  intro b e j u hu
  simp only [nums, List.getElem?_map, Option.map_eq_some_iff] at hu
  obtain ⟨x, hx, rfl⟩ := hu
  obtain ⟨ad, e1, hc⟩ := Kd.at_int h (j : Int) (by omega) (by have := (List.getElem?_eq_some_iff.1 hx).1; omega)
  rw [e] at e1; cases e1
  have hj : rd l (j : Int) = x := by unfold rd; simp [List.getD_eq_getElem?_getD, hx]
  simpa [hj] using hc
theorem kept_type {W w1 : World} {base e size n : Nat} {v : Value} {xs : List Value} (HO : W.ownsRow base e size v n xs) (hg : W.grownBy w1 v.ownBlock) :
    ∀ (B t' : Nat) (cs : Array Value), e ≠ t' → W.heap[B]? = some (.cells cs t' (0, 0)) → w1.heap[B]? = some (.cells cs t' (0, 0)) := fun B t' cs hne hb => blk_grown hb hg (own_ne HO hb hne)
/-- A string's bytes onto a row of bytes of the call's own, as a step of a region that draws its order. -/
theorem step_append_str8 (base : Nat) (hgd : o.guard = none) (s x : Operand) (t u e : TypeId)
    (ho : o.op = .call { callee := .builtin .append, args := #[s, x], argTypes := #[t, u] })
    (ht : P.underlying t = some (.slice e)) (hu : P.underlying u = some .string) (hinfo : (P.info? e).map (fun i => (i.zero, i.size, i.bytes)) = some (some (.int .u8 0), 1, 1))
    (v : Value) (xs : List Int) (y : ByteArray) (L : List Int) (hL : xs ++ bytesOf y = L) (hs : a.eval s = v) (hx : a.eval x = .string y)
    (HO : W.ownsRow base e 1 v xs.length (nums .u8 xs)) (hbase : base ≤ W.heap.size) (h0 : 0 < xs.length) (hl : xs.length + y.size ≤ 140737488355328)
    (h : ∀ g cap w1, w1.ownsRow base e 1 (.slice (some ⟨g, 0, none⟩) L.length cap) L.length (nums .u8 L) → W.grownBy w1 v.ownBlock →
      (∀ (B t' : Nat) (cs : Array Value), e ≠ t' → W.heap[B]? = some (.cells cs t' (0, 0)) → w1.heap[B]? = some (.cells cs t' (0, 0))) → K (a.put o.dst (.slice (some ⟨g, 0, none⟩) L.length cap)) w1) :
    if Region.wanted o (yielded ops a.tmps) = true then Oper.wp P o a W K Q else E := by
  subst hL
  have hw : Region.wanted o (yielded ops a.tmps) = true := by simp [Region.wanted, hgd]
  rw [if_pos hw]
  obtain ⟨i0, hi, hzz⟩ := Option.map_eq_some_iff.1 hinfo
  simp only [Prod.mk.injEq] at hzz
  obtain ⟨hz0, hz1, hz2⟩ := hzz
  obtain ⟨v1, w1, hr, hown, hg, _⟩ := Lib.run_append_own_string (P := P) W base t u o.type e i0 ht hu hi hz0 hz1 hz2 v xs.length (nums .u8 xs) HO y (by simp only [maxLen]; omega) hl hbase
  have hc : nums .u8 (xs ++ bytesOf y) = nums .u8 xs ++ Lib.strCells y := by
    rw [nums_append]
    congr 1
    simp [nums, bytesOf, Lib.strCells]
  have hl2 : (xs ++ bytesOf y).length = xs.length + y.size := by rw [List.length_append, bytesOf_length]
  rw [← hc, ← hl2] at hown
  obtain ⟨g, cap, rfl⟩ := row_slice hown (by omega)
  unfold Oper.wp execOp
  simp only [ho, resolve, invoke, builtin, Sem.run_bind, Sem.run_pure, Result.andThen_ok, List.map_toArray, List.map_cons, List.map_nil, hs, hx, hr]
  exact h g cap w1 hown hg (kept_type HO hg)
/-- One byte more, likewise. -/
theorem step_append_one8 (base : Nat) (hgd : o.guard = none) (s x : Operand) (t e : TypeId)
    (ho : o.op = .call { callee := .builtin .append, args := #[s, x], argTypes := #[t, t] })
    (ht : P.underlying t = some (.slice e)) (hinfo : (P.info? e).map (fun i => (i.zero, i.size, i.bytes)) = some (some (.int .u8 0), 1, 1))
    (v : Value) (xs : List Int) (b : Int) (L : List Int) (hL : xs ++ [b] = L) (B : Nat) (fr : Nat × Nat) (hs : a.eval s = v) (hx : a.eval x = .slice (some ⟨B, 0, none⟩) 1 1) (hB : W.heap[B]? = some (.cells #[.int .u8 b] e fr))
    (HO : W.ownsRow base e 1 v xs.length (nums .u8 xs)) (hbase : base ≤ W.heap.size) (hl : xs.length + 1 ≤ 140737488355328)
    (h : ∀ g cap w1, w1.ownsRow base e 1 (.slice (some ⟨g, 0, none⟩) L.length cap) L.length (nums .u8 L) → W.grownBy w1 v.ownBlock →
      (∀ (B t' : Nat) (cs : Array Value), e ≠ t' → W.heap[B]? = some (.cells cs t' (0, 0)) → w1.heap[B]? = some (.cells cs t' (0, 0))) → K (a.put o.dst (.slice (some ⟨g, 0, none⟩) L.length cap)) w1) :
    if Region.wanted o (yielded ops a.tmps) = true then Oper.wp P o a W K Q else E := by
  subst hL
  have hw : Region.wanted o (yielded ops a.tmps) = true := by simp [Region.wanted, hgd]
  rw [if_pos hw]
  obtain ⟨i0, hi, hzz⟩ := Option.map_eq_some_iff.1 hinfo
  simp only [Prod.mk.injEq] at hzz
  obtain ⟨hz0, hz1, hz2⟩ := hzz
  obtain ⟨v1, w1, hr, hown, hg, _⟩ := run_append_own (P := P) W base t o.type e i0 (.int .u8 0) 1 1 ht hi hz0 hz1 hz2 rfl (by decide) v xs.length (nums .u8 xs) HO ⟨B, 0, none⟩ 1 1 [.int .u8 b] rfl (by simpa using World.news_of_block hB) (by simp [Value.oneCell']) (by simp only [maxLen]; omega) (by omega) hbase
  have hc : nums .u8 (xs ++ [b]) = nums .u8 xs ++ [.int .u8 b] := by simp [nums]
  have hl2 : (xs ++ [b]).length = xs.length + 1 := by simp
  rw [← hc, ← hl2] at hown
  obtain ⟨g, cap, rfl⟩ := row_slice hown (by omega)
  unfold Oper.wp execOp
  simp only [ho, resolve, invoke, builtin, Sem.run_bind, Sem.run_pure, Result.andThen_ok, List.map_toArray, List.map_cons, List.map_nil, hs, hx, hr]
  exact h g cap w1 hown hg (kept_type HO hg)
end
set_option maxHeartbeats 4000000 in
set_option maxRecDepth 100000 in
theorem append_good (A0 : Option Addr) (c0 : Nat) (l0 : List Int) (n t : ByteArray) (w : World) (hr0 : Kd.C (Kd.int .u8) w A0 l0.length l0) (hc0 : l0.length ≤ c0) (hm : mayB n t = true) (hl : l0.length ≤ 1000000000) :
    Calls Tryd.prog 12 #[.slice A0 l0.length c0, .agg #[.string n, .string t]] w fun e w' => ∃ v0_ : Value, e = .returned (.tuple #[v0_, .int .i64 0]) ∧ Kd.R (Kd.int .u8) 5 w' w.heap.size (fun _ => True) v0_ (l0 ++ recOf n t) ∧ Below w.heap.size w w' := by
  have hmay := may_is n t
  rw [hm] at hmay
  have HM := Aside0.mk hmay
  have HMI := Aside0.mk (mayB_iff.1 hm)
  have HR0 := Aside0.mk hr0
  have HL := Aside0.mk hl
  obtain ⟨i0, hi, hz0, hz1, hz2⟩ := info_parts info5
  have HI := Aside0.mk (And.intro hi (And.intro hz0 (And.intro hz1 hz2)))
  clear hi hz0 hz1 hz2
  clear hmay hm hr0 hl
  have h1 : n.size ≤ 20 := HMI.out.2.1
  have h2 : t.size ≤ 20000 := HMI.out.2.2
  have hput := put_is [] (1 + (n.size : Int) + (t.size : Int)) (by simp)
  have HPF := Aside0.mk hput
  clear hput
  have HB0 := Aside0.mk (Below.refl w.heap.size w)
  go_enter Tryd.func12, Tryd.ntmps12
  go_wp2_with (first | (go_at_call 24; refine (store_may.calls _ _ _ _ HM.out).mono ?_; rintro e w1 ⟨rfl, ⟨nd, rfl⟩⟩) | (go_at_call 25; refine (store_put.calls 5 (fun _ => False) _ [] _ _ w _ (by repeat (first | exact Below.refl _ _ | apply below_alloc | apply pw_below_drewN | apply below_drew1)) (Kd.R_nil _ _ _ _ _) HPF.out).mono ?_; rintro e w2 ⟨v2, rfl, ho2, hb2, hk2⟩; have HO2 := Aside0.mk ho2; have HB2 := Aside0.mk hb2; have HK2 := Aside0.mk hk2; clear ho2 hb2 hk2))
  obtain ⟨L1, hL1⟩ : ∃ L, L = fourL (1 + (n.size : Int) + (t.size : Int)) := ⟨_, rfl⟩
  obtain ⟨L2, hL2⟩ : ∃ L, L1 ++ [(n.size : Int)] = L := ⟨_, rfl⟩
  obtain ⟨L3, hL3⟩ : ∃ L, L2 ++ bytesOf n = L := ⟨_, rfl⟩
  obtain ⟨L4, hL4⟩ : ∃ L, L3 ++ bytesOf t = L := ⟨_, rfl⟩
  have hn1 : L1.length = 4 := by rw [hL1]; rfl
  have hn2 : L2.length = 5 := by rw [← hL2, List.length_append, hn1]; rfl
  have hn3 : L3.length = 5 + n.size := by rw [← hL3, List.length_append, hn2, bytesOf_length]
  have hn4 : L4.length = 5 + n.size + t.size := by rw [← hL4, List.length_append, hn3, bytesOf_length]
  have hb4 : L4 = bodyOf n t := by rw [← hL4, ← hL3, ← hL2, hL1]; simp [bodyOf]
  have hbk : w2.heap[w.heap.size]? = some (.cells #[.string n, .string t] 24 (0, 0)) := blk_kept (blk_drewN (blk_new w _) nd) HK2.out (fun h => h)
  have hown0 : w2.ownsRow w.heap.size 5 1 v2 L1.length (nums .u8 L1) := by rw [hL1]; exact Kd.own_of_R (enc := Value.int .u8) (h1 := fun _ => rfl) HO2.out
  have hsz2 : w.heap.size ≤ w2.heap.size := HB2.out.size
  have hc0 : w2.cell? ⟨w.heap.size, 0, none⟩ = some (.string n) := blk_cell hbk 0
  have hc1 : w2.cell? ⟨w.heap.size, 1, none⟩ = some (.string t) := blk_cell hbk 1
  have HOW := Aside0.mk hown0
  have HBK := Aside0.mk hbk
  have HSZ := Aside0.mk hsz2
  have HN := Aside0.mk (And.intro hn1 (And.intro hn2 (And.intro hn3 hn4)))
  have HL1 := Aside0.mk hL1
  have HL2 := Aside0.mk hL2
  have HL3 := Aside0.mk hL3
  have HL4 := Aside0.mk hL4
  have HB4 := Aside0.mk hb4
  clear hown0 hsz2 hbk hL1 hL2 hL3 hL4 hn1 hn2 hn3 hn4 hb4
  have hw8 : IntKind.u8.wrap (n.size : Int) = (n.size : Int) := by rw [IntKind.wrap_u8]; omega
  go_region_held3 (fun w' => w'.cell? ⟨w.heap.size, 0, none⟩ = some (.string n) ∧ w'.cell? ⟨w.heap.size, 1, none⟩ = some (.string t))
    (first | go_keep | exact ⟨blk_cell HBZ.out 0, blk_cell HBZ.out 1⟩ | exact ⟨blk_cell HBY.out 0, blk_cell HBY.out 1⟩ | exact ⟨blk_cell HBX.out 0, blk_cell HBX.out 1⟩)
    (first
      | ((refine step_append_one8 w.heap.size rfl (.tmp 25) (.tmp 30) 22 5 rfl Tryd.underlying22 info5 v2 L1 (n.size : Int) L2 HL2.out w2.heap.size (0, 0) rfl rfl (blk_drew (blk_new w2 (.cells #[.int .u8 (n.size : Int)] 5))) (HOW.out.alloc _).drew (by have := HSZ.out; simp; omega) (by rw [HN.out.1]; omega) ?_); intro g1 cap1 w3 hw3 hg3 hk3; have HW3 := Aside0.mk hw3; have HG3 := Aside0.mk hg3; have HBX := Aside0.mk (hk3 _ _ _ (by decide) (blk_alloc HBK.out _)); have HSX := Aside0.mk (show w.heap.size ≤ w3.heap.size from Nat.le_trans HSZ.out (by have := hg3.size; simp at this; omega)); clear hw3 hg3 hk3)
      | ((refine step_append_str8 w.heap.size rfl (.tmp 31) (.tmp 33) 22 9 5 rfl Tryd.underlying22 Tryd.underlying9 info5 _ L2 n L3 HL3.out rfl rfl HW3.out HSX.out (by rw [HN.out.2.1]; omega) (by rw [HN.out.2.1]; omega) ?_); intro g2 cap2 w4 hw4 hg4 hk4; have HW4 := Aside0.mk hw4; have HG4 := Aside0.mk hg4; have HBY := Aside0.mk (hk4 _ _ _ (by decide) HBX.out); have HSY := Aside0.mk (Nat.le_trans HSX.out hg4.size); clear hw4 hg4 hk4)
      | ((refine step_append_str8 w.heap.size rfl (.tmp 34) (.tmp 36) 22 9 5 rfl Tryd.underlying22 Tryd.underlying9 info5 _ L3 t L4 HL4.out rfl rfl HW4.out HSY.out (by rw [HN.out.2.2.1]; omega) (by rw [HN.out.2.2.1]; omega) ?_); intro g3 cap3 w5 hw5 hg5 hk5; have HW5 := Aside0.mk hw5; have HG5 := Aside0.mk hg5; have HBZ := Aside0.mk (hk5 _ _ _ (by decide) HBY.out); have HSW := Aside0.mk (Nat.le_trans HSY.out hg5.size); clear hw5 hg5 hk5))
  have hbase : Below w.heap.size w w5 := ((((HB2.out.alloc HSZ.out _).drew).grown HG3.out (by have := HSZ.out; simp; omega) (own_base HOW.out)).grown HG4.out HSX.out (own_base HW3.out)).grown HG5.out HSY.out (own_base HW4.out)
  have HBB := Aside0.mk hbase
  have hR5 : Kd.R (Kd.int .u8) 5 w5 w.heap.size (fun k => k = g3) (.slice (some ⟨g3, 0, none⟩) L4.length cap3) L4 := Kd.R_of_own (enc := Value.int .u8) (h1 := fun _ => rfl) HW5.out (fun k hk => by simpa [Value.ownBlock] using hk.symm)
  have HR5 := Aside0.mk hR5
  have hsum : store_Sum.f L4 = some (crc L4) := by unfold store_Sum.f; rw [if_pos (by rw [HB4.out]; exact bodyOf_range n t (by omega))]
  have HSM := Aside0.mk hsum
  have hput4 := put_is L4 (crc L4) (by rw [HN.out.2.2.2]; omega)
  obtain ⟨L5, hL5⟩ : ∃ L, L4 ++ fourL (crc L4) = L := ⟨_, rfl⟩
  have hn5 : L5.length = 9 + n.size + t.size := by rw [← hL5, List.length_append, HN.out.2.2.2, fourL_length]; omega
  have hb5 : L5 = recOf n t := by rw [← hL5, HB4.out]; rfl
  rw [hL5] at hput4
  have HP4 := Aside0.mk hput4
  have HN5 := Aside0.mk hn5
  have HB5 := Aside0.mk hb5
  clear hL5 hn5 hb5
  clear hbase hR5 hsum hput4 hw8 hc0 hc1
  go_wp2_with (first | (go_at_call 17; refine (store_Sum.calls _ _ L4 (crc L4) _ (Kd.R_reads' HR5.out).2.2 (Kd.R_reads' HR5.out).2.1 HSM.out).mono ?_; rintro e w6 ⟨rfl, hb6⟩; have HB6 := Aside0.mk hb6; clear hb6) | (go_at_call 25; refine (store_put.calls 5 (fun k => k = g3) _ L4 _ _ w _ (HBB.out.trans (HB6.out.mono HBB.out.size)) (Kd.R_below HR5.out HB6.out) HP4.out).mono ?_; rintro e w7 ⟨v7, rfl, ho7, hb7, hk7⟩; obtain ⟨g7, cap7, rfl⟩ := row_slice (Kd.own_of_R ho7) (by rw [HN5.out]; omega); have HO7 := Aside0.mk ho7; have HB7 := Aside0.mk hb7; clear ho7 hb7 hk7) | (at_builtin; refine wpList_append_grows w7 rfl (.tmp 47) (.tmp 48) 22 rfl 5 i0 (.int .u8 0) 1 1 Tryd.underlying22 HI.out.1 HI.out.2.1 HI.out.2.2.1 HI.out.2.2.2 rfl (by decide) A0 l0.length l0.length (nums .u8 l0) rfl ?n1 ?n2 ?n3 ⟨g7, 0, none⟩ L5.length cap7 (nums .u8 L5) rfl ?n4 ?n5 ?n6 ?n7 ?n8 ?n9 ?_; (case n1 => exact row_none HR0.out); (case n2 => simp [nums]); (case n3 => exact row_cells (Kd.C_below HR0.out HB7.out)); (case n4 => simp [nums]); (case n5 => exact row_cells (Kd.R_reads' HO7.out).2.2 _ rfl); (case n6 => intro u hu; simp only [nums, List.mem_map] at hu; obtain ⟨z, _, rfl⟩ := hu; rfl); (case n7 => rw [HN5.out]; omega); (case n8 => simp only [maxLen]; rw [HN5.out]; have := HL.out; omega); (case n9 => rw [HN5.out]; have := HL.out; omega); intro v8 w8 ho8 hg8; have HO8 := Aside0.mk ho8; have HG8 := Aside0.mk hg8; clear ho8 hg8))
  have hfin : w8.ownsRow w7.heap.size 5 1 v8 (l0 ++ recOf n t).length (nums .u8 (l0 ++ recOf n t)) := by
    have e1 : nums .u8 (l0 ++ recOf n t) = nums .u8 l0 ++ nums .u8 L5 := by rw [HB5.out, nums_append]
    have e2 : (l0 ++ recOf n t).length = l0.length + L5.length := by rw [HB5.out, List.length_append]
    rw [e1, e2]; exact HO8.out
  have hR8 : Kd.R (Kd.int .u8) 5 w8 w.heap.size (fun _ => True) v8 (l0 ++ recOf n t) := Kd.R_of_own (enc := Value.int .u8) (h1 := fun _ => rfl) (own_weaken hfin HB7.out.size) (fun _ _ => trivial)
  have hB8 : Below w.heap.size w w8 := HB7.out.grown HG8.out HB7.out.size (fun k e => by cases e)
  refine bodyPost_ret (v := .tuple #[v8, .int .i64 0]) (by simp [results, Tryd.results12, go_sem]) rfl ⟨v8, rfl, hR8, hB8⟩

theorem store_Append.calls (A0 : Option Addr) (c0 : Nat) (l0 : List Int) (a1_0 a1_1 : ByteArray) (r1 : List Int) (r2 : Int) (w : World) (hr0 : Kd.C (Kd.int .u8) w A0 l0.length l0) (hc0 : l0.length ≤ c0) (h : store_Append.f l0 a1_0 a1_1 = some (r1, r2)) :
    Calls Tryd.prog 12 #[.slice A0 l0.length c0, .agg #[.string a1_0, .string a1_1]] w fun e w' => ∃ v0_ : Value, e = .returned (.tuple #[v0_, .int .i64 r2]) ∧ Kd.R (Kd.int .u8) 5 w' w.heap.size (fun _ => True) v0_ r1 ∧ Below w.heap.size w w' := by
  unfold store_Append.f at h
  by_cases hm : mayB a1_0 a1_1 = true
  · rw [if_pos hm] at h
    by_cases hl : l0.length ≤ 1000000000
    · rw [if_pos hl] at h
      cases h
      exact append_good A0 c0 l0 a1_0 a1_1 w hr0 hc0 hm hl
    · rw [if_neg hl] at h; cases h
  · rw [if_neg hm] at h
    cases h
    refine (append_bad A0 c0 l0 a1_0 a1_1 w (by simpa using hm)).mono ?_
    rintro e w' ⟨rfl, hb⟩
    exact ⟨_, rfl, Kd.R_nil _ _ _ _ _, hb⟩
end Go.Proofs.YtkeegknadegaaaaDoor.Q
