/-
  store.Read, by hand: the entries of the records that are well, how many bytes they have, and what is wrong behind.
-/
import Derived.Test.YtkeegknadegaaaaDoorHReg
import Derived.Test.YtkeegknadegaaaaDoorHAs
namespace Go.Proofs.YtkeegknadegaaaaDoor.Q
open Go.RowKit Go.Shelf Go.Proofs.YtkeegknadegaaaaDoor.S Go.Proofs.YtkeegknadegaaaaDoorW.PrintWords Go.Proofs.YtkeegknadegaaaaDoorW.PrintLast Go.Proofs.YtkeegknadegaaaaDoorW.PrintMore
set_option linter.unusedVariables false
set_option linter.unusedSimpArgs false
attribute [local go_sem] Oper.semAt_some

/-- What the program's text lays: errors.errorType holds the handle of the type error. -/
def GOK (w : World) : Prop := w.cell? ⟨0, 0, none⟩ = some (.iface 86 (.agg #[.pointer (some ⟨1, 58, none⟩)]))
theorem GOK.pos {w : World} (h : GOK w) : 0 < w.heap.size := by
  rcases Nat.eq_zero_or_pos w.heap.size with h0 | h1
  · unfold GOK at h; simp [World.cell?, h0] at h
  · exact h1
theorem GOK.below {w W : World} (h : GOK w) (hb : Below w.heap.size w W) : GOK W := (hb.cell (p := ⟨0, 0, none⟩) h.pos).trans h

set_option maxHeartbeats 2000000 in
set_option maxRecDepth 100000 in
theorem records_in (m : Nat) (A0 : Option Addr) (n c : Nat) (w : World) : CallsIn Fence.wide m Tryd.prog 27 #[.slice A0 n c] w fun e w' =>
    e = .returned (.func (.func 31) #[] #[.pointer (some ⟨w.heap.size, 0, none⟩)]) ∧ w.alloc (.cells #[.slice A0 n c] 22) = w' := by
  refine callsIn_of_wp Tryd.func27 rfl trivial ?_ rfl
  simp only [Tryd.ntmps27, List.size_toArray, List.length_cons, List.length_nil, Nat.reduceAdd, Nat.reduceSub, Array.replicate_succ, Array.replicate_zero, List.push_toArray, List.append_toArray, List.nil_append, List.cons_append]
  gi_wp2
  go_ret
  exact ⟨rfl, rfl⟩

theorem row_form {W : World} {base e size n : Nat} {v : Value} {xs : List Value} (h : W.ownsRow base e size v n xs) : ∃ A k c, v = .slice A k c := by
  rcases h.2 with ⟨rfl, _⟩ | ⟨g, cap, _, rfl, _⟩
  · exact ⟨_, _, _, rfl⟩
  · exact ⟨_, _, _, rfl⟩
theorem below_between {B : Nat} {w X Z : World} (h1 : Below B w X) (h2 : Below B w Z) (hs : X.heap.size ≤ Z.heap.size) : Below B X Z :=
  ⟨h2.os.trans h1.os.symm, h2.tape.trans h1.tape.symm, h2.output.trans h1.output.symm, hs, fun k hk => (h2.block k hk).trans (h1.block k hk).symm⟩
theorem ReadInv.drewI {w : World} {n₀ : Nat} {L r0 r1 r2 : Value} {pre : List RecG} {v : Value} {X : World} (h : ReadInv w n₀ L r0 r1 r2 pre v X) : ReadInv w n₀ L r0 r1 r2 pre v X.drew :=
  ⟨h.b0, h.b1, h.b2, h.out, h.at_, h.lg, h.row.drew, h.bel.drew⟩
theorem heapOther (w : World) (b : Nat) (u : Value) (k : Nat) (h : k ≠ b) : (w.setCell ⟨b, 0, none⟩ u).heap[k]? = w.heap[k]? := by
  simp only [World.setCell, Array.getElem?_modify]
  rw [if_neg (by omega)]
theorem res14 (tmps : Array Value) (w : World) (b0 b1 b2 : Nat) (v0 v1 v2 : Value) (h2 : tmps.getD 2 undef = .pointer (some ⟨b0, 0, none⟩)) (h3 : tmps.getD 3 undef = .pointer (some ⟨b1, 0, none⟩)) (h4 : tmps.getD 4 undef = .pointer (some ⟨b2, 0, none⟩))
    (c0 : w.cell? ⟨b0, 0, none⟩ = some v0) (c1 : w.cell? ⟨b1, 0, none⟩ = some v1) (c2 : w.cell? ⟨b2, 0, none⟩ = some v2) : (results Tryd.f14 tmps).run Tryd.prog w = .ok (.tuple #[v0, v1, v2]) w := by
  have hf : Tryd.f14.results = #[.cell 2 29, .cell 3 3, .cell 4 26] := rfl
  have h2' : tmps[2]?.getD undef = .pointer (some ⟨b0, 0, none⟩) := by simpa using h2
  have h3' : tmps[3]?.getD undef = .pointer (some ⟨b1, 0, none⟩) := by simpa using h3
  have h4' : tmps[4]?.getD undef = .pointer (some ⟨b2, 0, none⟩) := by simpa using h4
  simp only [results, hf]
  simp [h2', h3', h4', asAddr]
  go_simp
theorem R_putObj_ {α : Type} {d : Kd α} {e base : Nat} {w : World} {v : Value} {xs : List α} (h : d.R e w base (fun _ => True) v xs) {D : Nat} {o : Obj} (o' : Obj) (hD : w.heap[D]? = some o) (ho : o.isCells = false) : d.R e (w.putObj D o') base (fun _ => True) v xs :=
  Kd.R_mono (Kd.R_move (Kd.R_bound h) (fun k hk => World.putObj_heap_other (fun e => by
    obtain ⟨_, _, _, q, _, cells, hc⟩ := hk
    subst e
    rw [hc] at hD
    cases hD
    cases ho))) (fun _ _ => trivial)
theorem ret14 {w W : World} {L v : Value} {e err : Int} {goods : List RecG} (hv : ReadInv w w.heap.size L v (.int .i64 e) (.int .i64 err) goods v W) {D : Nat} (hD : w.heap.size + 6 ≤ D) (hK : W.heap[D]? = some (.deferred (some [])))
    (tmps : Array Value) (h2 : tmps.getD 2 undef = .pointer (some ⟨w.heap.size, 0, none⟩)) (h3 : tmps.getD 3 undef = .pointer (some ⟨w.heap.size + 1, 0, none⟩)) (h4 : tmps.getD 4 undef = .pointer (some ⟨w.heap.size + 2, 0, none⟩)) :
    LeavesInM Fence.wide 4 Tryd.prog Tryd.f14 tmps (fun e' w' => ∃ v0_ : Value, e' = .returned (.tuple #[v0_, .int .i64 e, .int .i64 err]) ∧ Kd.R k24 24 w' w.heap.size (fun _ => True) v0_ (entsOf goods) ∧ Below w.heap.size w w') [] .returning (W.putObj D (.deferred none)) := by
  have c : ∀ B t u, B < D → Boxed W B t u → (W.putObj D (.deferred none)).cell? ⟨B, 0, none⟩ = some u := fun B t u hB hb =>
    (World.cell?_of_block (World.putObj_heap_other (by simp; omega))).trans hb.cell
  refine ⟨_, res14 tmps _ _ _ _ _ _ _ h2 h3 h4 (c _ _ _ (by omega) hv.b0) (c _ _ _ (by omega) hv.b1) (c _ _ _ (by omega) hv.b2), v, rfl, R_putObj_ (Kd.R_lower (R_ents hv.row) (by omega)) _ hK rfl, hv.bel.trans (belowK_b (w := w) (Nat.le_refl _) W D _ _ (by omega) hK rfl rfl)⟩
theorem startW_ {P : Program} {ops : Array Oper} {Q : Exit → Act → World → Prop} {S : World → Prop} {ds : List Nat} {id m k : Nat} {a : Act} {w : World} {R : Act → World → Prop} (b : Array Bool) (hm : P.follows .mixedOrders = true) (hn : ops.size = m) (hl : Array.replicate m false = b) (hS : S w.drew)
    (h : S w.drew → wpAnyLast P .any ops (fun e a' w' => e = .normal ∧ R a' w') S ds m b a w.drew) (hR : ∀ a' w', R a' w' → Q .normal a' w') : (Code.region id ops true).wpIn Fence.wide k P Q a w := by
  refine wpIn_mono (Q := fun e a' w' => e = .normal ∧ R a' w') (wpIn_wide.2 (start_ b hm hn hl hS h)) ?_
  rintro e a' w' ⟨rfl, hr⟩
  exact hR a' w' hr
attribute [local go_sem ↓] append_appB
set_option maxHeartbeats 8000000 in
set_option maxRecDepth 100000 in
theorem read_in (A0 : Option Addr) (c0 : Nat) (l0 : List Int) (w : World) (hg : GOK w) (hr0 : Kd.C (Kd.int .u8) w A0 l0.length l0) (hc0 : l0.length ≤ c0) (hb : bytesB l0 = true) (hl : l0.length ≤ 100000000000)
    (goods : List RecG) (err : Int) (hs : scan (l0.length + 1) l0 0 = (goods, err)) :
    CallsIn Fence.wide 4 Tryd.prog 14 #[.slice A0 l0.length c0] w fun e w' => ∃ v0_ : Value, e = .returned (.tuple #[v0_, .int .i64 (endOf goods : Int), .int .i64 err]) ∧ Kd.R k24 24 w' w.heap.size (fun _ => True) v0_ (entsOf goods) ∧ Below w.heap.size w w' := by
  have HG := Aside0.mk hg
  have HR0 := Aside0.mk hr0
  have HC0 := Aside0.mk hc0
  have HBY := Aside0.mk hb
  have HS := Aside0.mk hs
  have HL := Aside0.mk hl
  have hgl := scan_length (l0.length + 1) l0 0 (by omega)
  rw [hs] at hgl
  have HGL := Aside0.mk (show goods.length ≤ 100000000000 by simp at hgl; omega)
  clear hg hr0 hc0 hb hs hl hgl
  refine callsIn_of_wp_marks Tryd.func14 rfl trivial ?_ rfl
  simp only [Tryd.ntmps14, List.size_toArray, List.length_cons, List.length_nil, Nat.reduceAdd, Nat.reduceSub, Array.replicate_succ, Array.replicate_zero, List.push_toArray, List.append_toArray, List.nil_append, List.cons_append]
  gi_wp2_with (first | (refine ⟨trivial, ?_⟩; gi_at_call 27; (with_reducible refine CallsIn.mono (records_in _ _ _ _ _) ?_); rintro e w' ⟨rfl, rfl⟩))
  obtain ⟨WL, hWL⟩ : ∃ WL, WL = ((((((w.alloc (.cells #[.slice none 0 0] 29)).alloc (.cells #[.int .i64 0] 3)).alloc (.cells #[.int .i64 0] 26)).alloc (.cells #[.slice none 0 0] 29)).alloc (.cells #[.int .i64 0] 3)).alloc (.cells #[.slice A0 l0.length c0] 22)) := ⟨_, rfl⟩
  have hWs : WL.heap.size = w.heap.size + 6 := by rw [hWL]; simp
  have hbL : Below w.heap.size w WL := by
    rw [hWL]
    exact ((((((Below.refl _ w).alloc (Nat.le_refl _) _).alloc (by simp) _).alloc (by simp; omega) _).alloc (by simp; omega) _).alloc (by simp; omega) _).alloc (by simp; omega) _
  have hI0 : ReadInv w w.heap.size (.slice A0 l0.length c0) (.slice none 0 0) (.int .i64 0) (.int .i64 0) [] (.slice none 0 0) WL := by
    refine ⟨?_, ?_, ?_, ?_, ?_, ?_, World.ownsRow_nil _ _ _ _, hbL⟩
    all_goals rw [hWL]
    · exact (((((Boxed.new w 29 _).alloc _).alloc _).alloc _).alloc _).alloc _
    · have h := Boxed.new (w.alloc (.cells #[.slice none 0 0] 29)) 3 (.int .i64 0)
      rw [World.size_alloc] at h
      exact (((h.alloc _).alloc _).alloc _).alloc _
    · have h := Boxed.new ((w.alloc (.cells #[.slice none 0 0] 29)).alloc (.cells #[.int .i64 0] 3)) 26 (.int .i64 0)
      rw [World.size_alloc, World.size_alloc] at h
      exact ((h.alloc _).alloc _).alloc _
    · have h := Boxed.new (((w.alloc (.cells #[.slice none 0 0] 29)).alloc (.cells #[.int .i64 0] 3)).alloc (.cells #[.int .i64 0] 26)) 29 (.slice none 0 0)
      rw [World.size_alloc, World.size_alloc, World.size_alloc] at h
      exact (h.alloc _).alloc _
    · have h := Boxed.new ((((w.alloc (.cells #[.slice none 0 0] 29)).alloc (.cells #[.int .i64 0] 3)).alloc (.cells #[.int .i64 0] 26)).alloc (.cells #[.slice none 0 0] 29)) 3 (.int .i64 0)
      rw [World.size_alloc, World.size_alloc, World.size_alloc, World.size_alloc] at h
      exact h.alloc _
    · have h := Boxed.new (((((w.alloc (.cells #[.slice none 0 0] 29)).alloc (.cells #[.int .i64 0] 3)).alloc (.cells #[.int .i64 0] 26)).alloc (.cells #[.slice none 0 0] 29)).alloc (.cells #[.int .i64 0] 3)) 22 (.slice A0 l0.length c0)
      rw [World.size_alloc, World.size_alloc, World.size_alloc, World.size_alloc, World.size_alloc] at h
      exact h
  rw [← hWL]
  clear hWL
  have HWS := Aside0.mk hWs
  have HBL := Aside0.mk hbL
  have HI0 := Aside0.mk hI0
  clear hWs hbL hI0
  obtain ⟨b5, hb5⟩ : ∃ b, w.heap.size + 1 + 1 + 1 + 1 + 1 = b := ⟨_, rfl⟩
  obtain ⟨b4, hb4⟩ : ∃ b, w.heap.size + 1 + 1 + 1 + 1 = b := ⟨_, rfl⟩
  obtain ⟨b3, hb3⟩ : ∃ b, w.heap.size + 1 + 1 + 1 = b := ⟨_, rfl⟩
  obtain ⟨b2, hb2⟩ : ∃ b, w.heap.size + 1 + 1 = b := ⟨_, rfl⟩
  obtain ⟨b1, hb1⟩ : ∃ b, w.heap.size + 1 = b := ⟨_, rfl⟩
  obtain ⟨b0, hb0⟩ : ∃ b, w.heap.size = b := ⟨_, rfl⟩
  have E5 : w.heap.size + 5 = b5 := hb5
  have E4 : w.heap.size + 4 = b4 := hb4
  have E3 : w.heap.size + 3 = b3 := hb3
  have E2 : w.heap.size + 2 = b2 := hb2
  have E1 : w.heap.size + 1 = b1 := hb1
  have E0 : w.heap.size = b0 := hb0
  have HE := Aside0.mk (And.intro E0 (And.intro E1 (And.intro E2 (And.intro E3 (And.intro E4 E5)))))
  have hfr : #[Value.slice A0 l0.length c0, undef, .pointer (some ⟨w.heap.size, 0, none⟩), .pointer (some ⟨w.heap.size + 1, 0, none⟩), .pointer (some ⟨w.heap.size + 1 + 1, 0, none⟩), .pointer (some ⟨w.heap.size + 1 + 1 + 1, 0, none⟩), .pointer (some ⟨w.heap.size + 1 + 1 + 1 + 1, 0, none⟩), undef, undef, undef, .slice A0 l0.length c0, .func (.func 31) #[] #[.pointer (some ⟨w.heap.size + 1 + 1 + 1 + 1 + 1, 0, none⟩)], undef, undef, undef, undef, undef, undef, undef, undef, undef, undef, undef, undef, undef, undef, undef, undef, undef, undef, undef, undef]
      = #[Value.slice A0 l0.length c0, undef, .pointer (some ⟨b0, 0, none⟩), .pointer (some ⟨b1, 0, none⟩), .pointer (some ⟨b2, 0, none⟩), .pointer (some ⟨b3, 0, none⟩), .pointer (some ⟨b4, 0, none⟩), undef, undef, undef, .slice A0 l0.length c0, .func (.func 31) #[] #[.pointer (some ⟨b5, 0, none⟩)], undef, undef, undef, undef, undef, undef, undef, undef, undef, undef, undef, undef, undef, undef, undef, undef, undef, undef, undef, undef] := by rw [hb5, hb4, hb3, hb2, hb1, hb0]
  clear E0 E1 E2 E3 E4 E5 hb0 hb1 hb2 hb3 hb4 hb5
  rw [hfr]
  clear hfr
  obtain ⟨FR, hFR⟩ : ∃ FR : Value → Value → Value → Value → Array Value, FR = fun x7 x8 x12 x13 => #[.slice A0 l0.length c0, undef, .pointer (some ⟨b0, 0, none⟩), .pointer (some ⟨b1, 0, none⟩), .pointer (some ⟨b2, 0, none⟩), .pointer (some ⟨b3, 0, none⟩), .pointer (some ⟨b4, 0, none⟩), x7, x8, undef, .slice A0 l0.length c0, .func (.func 31) #[] #[.pointer (some ⟨b5, 0, none⟩)], x12, x13, undef, undef, undef, undef, undef, undef, undef, undef, undef, undef, undef, undef, undef, undef, undef, undef, undef, undef] := ⟨_, rfl⟩
  have HFR := Aside0.mk hFR
  clear hFR
  refine range_recs (γ := RecG) (β := Nat × Nat) (gf := 31) (lb := #[.pointer (some ⟨b5, 0, none⟩)]) rfl (enters_of Tryd.func31 (by kernel_rfl) rfl) encG (fun b => encB b.1 b.2) (fun b X => X.heap[b.2]? = some (.cells #[.int .i64 err] 63 (0, 0))) (fun _ => rfl) (fun _ => rfl)
    (KeepR w.heap.size (w.heap.size + 5)) goods (err = 0) ?seq (fun _ _ _ => KeepR.trans) ?keepb
    (fun pre X => ∃ v, ReadInv w w.heap.size (.slice A0 l0.length c0) (.slice none 0 0) (.int .i64 0) (.int .i64 0) pre v X) (fun X => ∃ v, ReadInv w w.heap.size (.slice A0 l0.length c0) v (.int .i64 (endOf goods : Int)) (.int .i64 err) goods v X)
    (fun pre => bears_ex fun v => ReadInv.bears (by have := HWS.out; omega) (Nat.le_refl _)) (bears_ex fun v => ReadInv.bears (by have := HWS.out; omega) (Nat.le_refl _)) ⟨_, HI0.out⟩
    (fun x a' X => ∃ Bx, w.heap.size + 6 ≤ Bx ∧ X.heap[Bx]? = some (.cells #[.string x.1, .string x.2.1, .int .i64 (x.2.2 : Int)] 56 (0, 0)) ∧ a' = { tmps := FR (.pointer (some ⟨Bx, 0, none⟩)) .nilIface (.agg #[.string x.1, .string x.2.1, .int .i64 (x.2.2 : Int)]) .nilIface, defers := [] })
    (fun b a' X => ∃ Bx, X.heap[b.2]? = some (.cells #[.int .i64 err] 63 (0, 0)) ∧ a' = { tmps := FR (.pointer (some ⟨Bx, 0, none⟩)) (.iface 59 (.pointer (some ⟨b.2, 0, none⟩))) (.agg #[.string ⟨#[]⟩, .string ⟨#[]⟩, .int .i64 (b.1 : Int)]) (.iface 59 (.pointer (some ⟨b.2, 0, none⟩))), defers := [] })
    (fun x a' => bears_ex fun Bx => bears_and (bears_pure _) (bears_and blk_bears (bears_pure _))) (fun b a' => bears_ex fun Bx => bears_and blk_bears (bears_pure _)) ?asG ?bdG ?asB ?bdB ?done ?stop
  case seq =>
    intro l J Jx W hBW _ hJ hGd hBd hJ0
    have hgd : (scan (l0.length + 1) l0 0).1 = goods := by rw [HS.out]
    have her : (scan (l0.length + 1) l0 0).2 = err := by rw [HS.out]
    have h := recs_in l (w.heap.size + 5) w.heap.size A0 c0 l0 J (fun _ X => Jx X) W hJ
      (fun pre g X h1 h2 => hGd pre g X h1 (by rwa [hgd] at h2))
      (fun p B c X h1 h2 h3 => hBd (p, B) X (by rwa [hgd] at h1) (by rw [her] at h2; rwa [h2] at h3))
      ((hBW.block (w.heap.size + 5) (by have := HWS.out; omega)).trans HI0.out.lg) w HR0.out HC0.out HBY.out (Nat.le_refl _) (by have := hBW.size; have := HWS.out; omega) (HBL.out.trans (hBW.mono (by have := HWS.out; omega))) hJ0
    rw [hgd, her, HE.out.2.2.2.2.2] at h
    exact h
  case keepb =>
    intro X l o o' hl ho hc
    have hlt := (Array.getElem?_eq_some_iff.1 ho).1
    have h6 := HWS.out
    exact ⟨(Below.refl _ X).grown (grownBy_putObj' X l o') (by omega) (fun k e => by cases e; omega), by omega, (grownBy_putObj' X l o').block _ (by omega) (by simp; omega)⟩
  case asG =>
    intro l pre x X K hi hK
    have HK := Aside0.mk hK
    have HI := Aside0.mk hi
    clear hK hi
    rw [HFR.out] at HK
    dsimp only [encG]
    gi_wp2
    obtain ⟨v, hv⟩ := HI.out
    have hsz := hv.lg.lt
    refine HK.out _ _ ((KeepsOthers.alloc X _).from _) ⟨(Below.refl _ X).alloc (by omega) _, by omega, Below.heap_alloc _ _ _ (by omega)⟩ ⟨v, read_kept hv (Nat.le_refl _) (World.grownBy_alloc X _ none)⟩ ⟨X.heap.size, by omega, blk_new X _, rfl⟩
  case bdG =>
    rintro l pre x a' X ⟨v, hv⟩ ⟨Bx, hBx, hbx, rfl⟩ hlt
    obtain ⟨n, t, p⟩ := x
    dsimp only at hbx ⊢
    rw [HFR.out]
    have hg59 : X.grownBy (X.alloc (.cells #[.pointer none] 59)) none := World.grownBy_alloc X _ none
    have hv1 := read_kept hv (Nat.le_refl _) hg59
    have hbx1 := blk_alloc hbx (.cells #[.pointer none] 59)
    obtain ⟨g, cap, w3, hrun, e3, e4, ex, hinv, hko⟩ := hv1.push (Nat.le_refl _) n t p (by have := HGL.out; omega) Bx hBx hbx1
    obtain ⟨X1, hX1⟩ : ∃ X1, X1 = X.alloc (.cells #[.pointer none] 59) := ⟨_, rfl⟩
    rw [← hX1] at hrun hko hv1 hbx1 hg59
    have HX1 := Aside0.mk hX1
    have hn3 := HE.out.2.2.2.1
    have hn4 := HE.out.2.2.2.2.1
    rw [hn3, hn4] at hinv hko
    have e3' := e3
    have e4' := e4
    have o3 := hv1.out
    have o4 := hv1.at_
    rw [hn3] at e3' o3
    rw [hn4] at e4' o4
    have h5 : X1.cell? ⟨b3, 0, none⟩ = some v := o3.cell
    have h5f : X1.frozen? ⟨b3, 0, none⟩ = false := o3.frozen
    have h6 : X1.cell? ⟨b4, 0, none⟩ = some (.int .i64 (endOf pre : Int)) := o4.cell
    have h6f : X1.frozen? ⟨b4, 0, none⟩ = false := o4.frozen
    have hr0 : X1.cell? ⟨Bx, 0, none⟩ = some (.string n) := blk_cell hbx1 0
    have hr1 : X1.cell? ⟨Bx, 1, none⟩ = some (.string t) := blk_cell hbx1 1
    have hr2 : X1.cell? ⟨Bx, 2, none⟩ = some (.int .i64 (p : Int)) := blk_cell hbx1 2
    have hba := blk_alloc hbx1 (.cells #[.string n, .string t] 24)
    have ha0 : (X1.alloc (.cells #[.string n, .string t] 24)).cell? ⟨Bx, 0, none⟩ = some (.string n) := blk_cell hba 0
    have ha1 : (X1.alloc (.cells #[.string n, .string t] 24)).cell? ⟨Bx, 1, none⟩ = some (.string t) := blk_cell hba 1
    have ha2 : (X1.alloc (.cells #[.string n, .string t] 24)).cell? ⟨Bx, 2, none⟩ = some (.int .i64 (p : Int)) := blk_cell hba 2
    have ha5 : (X1.alloc (.cells #[.string n, .string t] 24)).cell? ⟨b3, 0, none⟩ = some v := (o3.alloc _).cell
    have hw0 : w3.cell? ⟨Bx, 0, none⟩ = some (.string n) := blk_cell ex 0
    have hw1 : w3.cell? ⟨Bx, 1, none⟩ = some (.string t) := blk_cell ex 1
    have hw2 : w3.cell? ⟨Bx, 2, none⟩ = some (.int .i64 (p : Int)) := blk_cell ex 2
    have hw5 : w3.cell? ⟨b3, 0, none⟩ = some v := e3'.cell
    have hw5f : w3.frozen? ⟨b3, 0, none⟩ = false := e3'.frozen
    have hw6f : w3.frozen? ⟨b4, 0, none⟩ = false := e4'.frozen
    have hbs := blk_far ex (p := ⟨b3, 0, none⟩) (by simp; omega) (.slice (some ⟨g, 0, none⟩) (pre.length + 1) cap)
    have hs0 : (w3.setCell ⟨b3, 0, none⟩ (.slice (some ⟨g, 0, none⟩) (pre.length + 1) cap)).cell? ⟨Bx, 0, none⟩ = some (.string n) := blk_cell hbs 0
    have hs1 : (w3.setCell ⟨b3, 0, none⟩ (.slice (some ⟨g, 0, none⟩) (pre.length + 1) cap)).cell? ⟨Bx, 1, none⟩ = some (.string t) := blk_cell hbs 1
    have hs2 : (w3.setCell ⟨b3, 0, none⟩ (.slice (some ⟨g, 0, none⟩) (pre.length + 1) cap)).cell? ⟨Bx, 2, none⟩ = some (.int .i64 (p : Int)) := blk_cell hbs 2
    have hs4 : (w3.setCell ⟨b3, 0, none⟩ (.slice (some ⟨g, 0, none⟩) (pre.length + 1) cap)).cell? ⟨b4, 0, none⟩ = some (.int .i64 (endOf pre : Int)) := (e4'.other (by omega) _).cell
    have hbz := blk_far hbs (p := ⟨b4, 0, none⟩) (by simp; omega) (.int .i64 (p : Int))
    have hz0 := blk_cell hbz 0
    have hz1 := blk_cell hbz 1
    have hz2 := blk_cell hbz 2
    clear hbz hbs hba
    have HV := Aside0.mk hv
    have HINV := Aside0.mk hinv
    have HKO := Aside0.mk hko
    have HG59 := Aside0.mk hg59
    clear hv hbx e3 e4 ex hinv hko hlt hg59 hv1 hbx1 hBx hX1 hn3 hn4 e3' e4' o3 o4
    have hmx : Tryd.prog.follows .mixedOrders = true := by kernel_rfl
    gi_wp2_with (first | (refine ⟨trivial, ?_⟩; gi_at_call 28; (with_reducible refine CallsIn.mono (CallsIn.inRound l (callsIn_wide.2 (as_nil _ _))) ?_); rintro e w' ⟨rfl, rfl⟩))
    rw [← HX1.out]
    refine startIn_ (m := 9) (S := fun w' => w'.cell? ⟨Bx, 0, none⟩ = some (.string n) ∧ w'.cell? ⟨Bx, 1, none⟩ = some (.string t) ∧ w'.cell? ⟨Bx, 2, none⟩ = some (.int .i64 (p : Int))) (ds := []) (R := fun w' => w' = (w3.setCell ⟨b3, 0, none⟩ (.slice (some ⟨g, 0, none⟩) (pre.length + 1) cap)).setCell ⟨b4, 0, none⟩ (.int .i64 (p : Int))) #[false, false, false, false, false, false, false, false, false] (by kernel_rfl) (by kernel_rfl) rfl rfl ⟨hr0, hr1, hr2⟩ (fun hHeld => ?_) ?_
    · refine pure_ (i := 1) (N := some 24) (v := ?_) (a' := ?_) #[false, true, false, false, false, false, false, false, false] rfl rfl (by kernel_rfl) (fun _ _ _ h => h) (Or.inl ⟨by rfl, ?_⟩) ?_ ?_
      rotate_left
      · intro w'
        go_simp
        with_reducible rfl
      rotate_left
      · simp only [Act.put, List.setIfInBounds_toArray, List.set_cons_zero, List.set_cons_succ, i64_w, i32_w]
        rfl
      refine take_ (i := 2) (N := some 25) (v := ?_) (a' := ?_) #[false, true, true, false, false, false, false, false, false] rfl rfl (by kernel_rfl) (fun _ _ _ h => h) (Or.inl ⟨by rfl, ?_⟩) hHeld ?_ ?_
      rotate_left
      · rintro w' ⟨s0, s1, s2⟩
        go_simp
        with_reducible rfl
      rotate_left
      · simp only [Act.put, List.setIfInBounds_toArray, List.set_cons_zero, List.set_cons_succ, i64_w, i32_w]
        rfl
      refine pure_ (i := 5) (N := some 28) (v := ?_) (a' := ?_) #[false, true, true, false, false, true, false, false, false] rfl rfl (by kernel_rfl) (fun _ _ _ h => h) (Or.inl ⟨by rfl, ?_⟩) ?_ ?_
      rotate_left
      · intro w'
        go_simp
        with_reducible rfl
      rotate_left
      · simp only [Act.put, List.setIfInBounds_toArray, List.set_cons_zero, List.set_cons_succ, i64_w, i32_w]
        rfl
      refine take_ (i := 6) (N := some 29) (v := ?_) (a' := ?_) #[false, true, true, false, false, true, true, false, false] rfl rfl (by kernel_rfl) (fun _ _ _ h => h) (Or.inl ⟨by rfl, ?_⟩) hHeld ?_ ?_
      rotate_left
      · rintro w' ⟨s0, s1, s2⟩
        go_simp
        with_reducible rfl
      rotate_left
      · simp only [Act.put, List.setIfInBounds_toArray, List.set_cons_zero, List.set_cons_succ, i64_w, i32_w]
        rfl
      refine two_ (i := 0) (j := 3) (Ni := some 23) (Nj := some 26) #[true, true, true, false, false, true, true, false, false] #[false, true, true, true, false, true, true, false, false] rfl rfl rfl rfl (by kernel_rfl) (by decide) (by decide) (fun K hK => ?_) (fun K hK => ?_)
      · refine val_ (v := ?_) (w1 := ?_) (by rfl) rfl ?_ ?_
        rotate_left 2
        · go_simp
          first | with_reducible rfl | (constructor <;> with_reducible rfl)
        refine hK.out _ _ ⟨hr0, hr1, hr2⟩ (fun hHeld => ?_)
        clear hK K
        refine norm_ (a' := ?_) ?_ ?_
        rotate_left
        · show Act.put _ (some 23) _ = _
          simp only [Act.put, List.setIfInBounds_toArray, List.set_cons_zero, List.set_cons_succ, i64_w, i32_w]
          rfl
        refine one_ (i := 3) (N := some 26) #[true, true, true, true, false, true, true, false, false] rfl rfl (by kernel_rfl) (by decide) (fun K hK => ?_)
        refine val_ (v := ?_) (w1 := ?_) (by rfl) rfl ?_ ?_
        rotate_left 2
        · go_simp
          first | with_reducible rfl | (constructor <;> with_reducible rfl)
        refine hK.out _ _ ⟨ha0, ha1, ha2⟩ (fun hHeld => ?_)
        clear hK K
        refine norm_ (a' := ?_) ?_ ?_
        rotate_left
        · show Act.put _ (some 26) _ = _
          simp only [Act.put, List.setIfInBounds_toArray, List.set_cons_zero, List.set_cons_succ, i64_w, i32_w]
          rfl
        refine one_ (i := 4) (N := some 27) #[true, true, true, true, true, true, true, false, false] rfl rfl (by kernel_rfl) (by decide) (fun K hK => ?_)
        refine val_ (v := ?_) (w1 := ?_) (by rfl) rfl ?_ ?_
        rotate_left 2
        · go_simp
          first | with_reducible rfl | (constructor <;> with_reducible rfl)
        refine hK.out _ _ ⟨hw0, hw1, hw2⟩ (fun hHeld => ?_)
        clear hK K
        refine norm_ (a' := ?_) ?_ ?_
        rotate_left
        · show Act.put _ (some 27) _ = _
          simp only [Act.put, List.setIfInBounds_toArray, List.set_cons_zero, List.set_cons_succ, i64_w, i32_w]
          rfl
        refine one_ (i := 7) (N := none) #[true, true, true, true, true, true, true, true, false] rfl rfl (by kernel_rfl) (by decide) (fun K hK => ?_)
        refine skip_ (w1 := ?_) (by rfl) rfl ?_ ?_
        rotate_left
        · go_simp
          with_reducible rfl
        refine hK.out _ _ ⟨hs0, hs1, hs2⟩ (fun hHeld => ?_)
        clear hK K
        refine one_ (i := 8) (N := none) #[true, true, true, true, true, true, true, true, true] rfl rfl (by kernel_rfl) (by decide) (fun K hK => ?_)
        refine skip_ (w1 := ?_) (by rfl) rfl ?_ ?_
        rotate_left
        · go_simp
          with_reducible rfl
        refine hK.out _ _ ⟨hz0, hz1, hz2⟩ (fun hHeld => ?_)
        clear hK K
        exact done_ (by kernel_rfl) ⟨rfl, rfl⟩
      · refine val_ (v := ?_) (w1 := ?_) (by rfl) rfl ?_ ?_
        rotate_left 2
        · go_simp
          first | with_reducible rfl | (constructor <;> with_reducible rfl)
        refine hK.out _ _ ⟨ha0, ha1, ha2⟩ (fun hHeld => ?_)
        clear hK K
        refine norm_ (a' := ?_) ?_ ?_
        rotate_left
        · show Act.put _ (some 26) _ = _
          simp only [Act.put, List.setIfInBounds_toArray, List.set_cons_zero, List.set_cons_succ, i64_w, i32_w]
          rfl
        refine one_ (i := 0) (N := some 23) #[true, true, true, true, false, true, true, false, false] rfl rfl (by kernel_rfl) (by decide) (fun K hK => ?_)
        refine val_ (v := ?_) (w1 := ?_) (by rfl) rfl ?_ ?_
        rotate_left 2
        · go_simp
          first | with_reducible rfl | (constructor <;> with_reducible rfl)
        refine hK.out _ _ ⟨ha0, ha1, ha2⟩ (fun hHeld => ?_)
        clear hK K
        refine norm_ (a' := ?_) ?_ ?_
        rotate_left
        · show Act.put _ (some 23) _ = _
          simp only [Act.put, List.setIfInBounds_toArray, List.set_cons_zero, List.set_cons_succ, i64_w, i32_w]
          rfl
        refine one_ (i := 4) (N := some 27) #[true, true, true, true, true, true, true, false, false] rfl rfl (by kernel_rfl) (by decide) (fun K hK => ?_)
        refine val_ (v := ?_) (w1 := ?_) (by rfl) rfl ?_ ?_
        rotate_left 2
        · go_simp
          first | with_reducible rfl | (constructor <;> with_reducible rfl)
        refine hK.out _ _ ⟨hw0, hw1, hw2⟩ (fun hHeld => ?_)
        clear hK K
        refine norm_ (a' := ?_) ?_ ?_
        rotate_left
        · show Act.put _ (some 27) _ = _
          simp only [Act.put, List.setIfInBounds_toArray, List.set_cons_zero, List.set_cons_succ, i64_w, i32_w]
          rfl
        refine one_ (i := 7) (N := none) #[true, true, true, true, true, true, true, true, false] rfl rfl (by kernel_rfl) (by decide) (fun K hK => ?_)
        refine skip_ (w1 := ?_) (by rfl) rfl ?_ ?_
        rotate_left
        · go_simp
          with_reducible rfl
        refine hK.out _ _ ⟨hs0, hs1, hs2⟩ (fun hHeld => ?_)
        clear hK K
        refine one_ (i := 8) (N := none) #[true, true, true, true, true, true, true, true, true] rfl rfl (by kernel_rfl) (by decide) (fun K hK => ?_)
        refine skip_ (w1 := ?_) (by rfl) rfl ?_ ?_
        rotate_left
        · go_simp
          with_reducible rfl
        refine hK.out _ _ ⟨hz0, hz1, hz2⟩ (fun hHeld => ?_)
        clear hK K
        exact done_ (by kernel_rfl) ⟨rfl, rfl⟩
    · rintro a' w' rfl
      exact ⟨((KeepsOthers.alloc X _).trans (by rw [HX1.out] at *; exact HKO.out)).from _, ⟨below_between HV.out.bel HINV.out.bel (Nat.le_trans (KeepsOthers.alloc X _).size (by rw [HX1.out] at *; exact HKO.out.size)), HV.out.lg.lt, (show _ = _ from HINV.out.lg).trans (show _ = _ from HV.out.lg).symm⟩, ⟨_, HINV.out⟩⟩
  case asB =>
    intro l b X K hi hf hK
    have HK := Aside0.mk hK
    have HI := Aside0.mk hi
    have HF := Aside0.mk hf
    clear hK hi hf
    rw [HFR.out] at HK
    dsimp only [encB]
    gi_wp2
    obtain ⟨v, hv⟩ := HI.out
    refine HK.out _ _ ((KeepsOthers.alloc X _).from _) ⟨v, read_kept hv (Nat.le_refl _) (World.grownBy_alloc X _ none)⟩ ⟨X.heap.size, blk_alloc HF.out _, rfl⟩
  case bdB =>
    rintro l ⟨p, B⟩ a' X ⟨v, hv⟩ ⟨Bx, hbx, rfl⟩
    obtain ⟨Av, nv, cv, rfl⟩ := row_form hv.row
    dsimp only at hbx ⊢
    rw [HFR.out]
    have HV := Aside0.mk hv
    have HBX := Aside0.mk hbx
    have hG := HG.out.below hv.bel
    have hgA := (GOK.below hG (below_alloc (Below.refl _ _) (.cells #[.pointer none] 59)))
    have htA : (X.alloc (.cells #[.pointer none] 59)).cell? ⟨X.heap.size, 0, none⟩ = some (.pointer none) := by simp
    have hfA : (X.alloc (.cells #[.pointer none] 59)).frozen? ⟨X.heap.size, 0, none⟩ = false := by simp
    have HAS := Aside0.mk (as_hit ⟨B, 0, none⟩ ⟨X.heap.size, 0, none⟩ (.pointer none) _ hgA htA hfA)
    have hxl := hv.lg.lt
    have hown := fun k hk => own_lt hv.row k hk
    clear hbx hG hgA htA hfA
    obtain ⟨W0, hW0⟩ : ∃ W0, W0 = (((((X.alloc (.cells #[.pointer none] 59)).alloc (.cells #[.pointer (some ⟨X.heap.size, 0, none⟩)] 61)).alloc (.cells #[.pointer (some ⟨1, 61, none⟩), .pointer (some ⟨(X.alloc (.cells #[.pointer none] 59)).heap.size, 0, none⟩), .int .u64 150] 75)).alloc (.cells #[.pointer (some ⟨1, 61, none⟩), .pointer (some ⟨(X.alloc (.cells #[.pointer none] 59)).heap.size, 0, none⟩), .int .u64 150] 75)).alloc (.cells #[.pointer (some ⟨B, 0, none⟩)] 59)).setCell ⟨X.heap.size, 0, none⟩ (.pointer (some ⟨B, 0, none⟩)) := ⟨_, rfl⟩
    rw [← hW0] at HAS
    have k5 : Boxed (((((X.alloc (.cells #[.pointer none] 59)).alloc (.cells #[.pointer (some ⟨X.heap.size, 0, none⟩)] 61)).alloc (.cells #[.pointer (some ⟨1, 61, none⟩), .pointer (some ⟨(X.alloc (.cells #[.pointer none] 59)).heap.size, 0, none⟩), .int .u64 150] 75)).alloc (.cells #[.pointer (some ⟨1, 61, none⟩), .pointer (some ⟨(X.alloc (.cells #[.pointer none] 59)).heap.size, 0, none⟩), .int .u64 150] 75)).alloc (.cells #[.pointer (some ⟨B, 0, none⟩)] 59)) X.heap.size 59 (.pointer none) := ((((Boxed.new X 59 _).alloc _).alloc _).alloc _).alloc _
    have q0 : ReadInv w w.heap.size (.slice A0 l0.length c0) (.slice none 0 0) (.int .i64 0) (.int .i64 0) goods (.slice Av nv cv) W0 := by
      rw [hW0]
      exact (read_kept hv (Nat.le_refl _) ((((World.grownBy_alloc X _ none).trans (World.grownBy_alloc _ _ none)).trans (World.grownBy_alloc _ _ none)).trans (World.grownBy_alloc _ _ none) |>.trans (World.grownBy_alloc _ _ none))).far _ _ (by omega) (fun e => by have := hown _ e.symm; omega)
    have q9 : Boxed W0 X.heap.size 59 (.pointer (some ⟨B, 0, none⟩)) := by rw [hW0]; exact k5.set _
    have qB : Boxed W0 B 63 (.int .i64 err) := by
      rw [hW0]
      have hBX : Boxed X B 63 (.int .i64 err) := HBX.out
      exact (((((hBX.alloc _).alloc _).alloc _).alloc _).alloc _).other (by have := hBX.lt; omega) _
    have hko : KeepsOthers X W0 := by rw [hW0]; exact (((((KeepsOthers.alloc X _).trans (KeepsOthers.alloc _ _)).trans (KeepsOthers.alloc _ _)).trans (KeepsOthers.alloc _ _)).trans (KeepsOthers.alloc _ _)).trans (KeepsOthers.setCell _ _ _)
    have hB6 : B ≠ w.heap.size ∧ B ≠ w.heap.size + 1 ∧ B ≠ w.heap.size + 2 := by
      refine ⟨fun e => ?_, fun e => ?_, fun e => ?_⟩
      · have h1 := (show _ = _ from q0.b0).symm.trans (e ▸ (show _ = _ from qB)); simp at h1
      · have h1 := (show _ = _ from q0.b1).symm.trans (e ▸ (show _ = _ from qB)); simp at h1
      · have h1 := (show _ = _ from q0.b2).symm.trans (e ▸ (show _ = _ from qB)); simp at h1
    have hX6 : w.heap.size + 5 < X.heap.size := hxl
    obtain ⟨hn0, hn1, hn2, hn3, hn4, hn5⟩ := HE.out
    rw [hn2, hn1, hn0] at hB6
    have hfin : ReadInv w w.heap.size (.slice A0 l0.length c0) (.slice Av nv cv) (.int .i64 (endOf goods : Int)) (.int .i64 err) goods (.slice Av nv cv) (((W0.setCell ⟨b0, 0, none⟩ (.slice Av nv cv)).setCell ⟨b1, 0, none⟩ (.int .i64 (endOf goods : Int))).setCell ⟨b2, 0, none⟩ (.int .i64 err)) := by
      rw [← hn1, ← hn2, ← hn0]; exact q0.results (.slice Av nv cv) (.int .i64 (endOf goods : Int)) (.int .i64 err)
    have e0 := q0.b0
    have c1 := q0.b1
    have c2 := q0.b2
    have c3 := q0.out
    have c4 := q0.at_
    rw [hn0] at e0
    rw [hn1] at c1
    rw [hn2] at c2
    rw [hn3] at c3
    rw [hn4] at c4
    obtain ⟨x9, hx9⟩ : ∃ x, x = X.heap.size := ⟨_, rfl⟩
    obtain ⟨W1, hW1⟩ : ∃ W1, W1 = W0.setCell ⟨b0, 0, none⟩ (.slice Av nv cv) := ⟨_, rfl⟩
    obtain ⟨W2, hW2⟩ : ∃ W2, W2 = W1.setCell ⟨b1, 0, none⟩ (.int .i64 (endOf goods : Int)) := ⟨_, rfl⟩
    have f00 := e0.cell
    have f00f := e0.frozen
    have f01 := c1.cell
    have f01f := c1.frozen
    have f02 := c2.cell
    have f02f := c2.frozen
    have f03 := c3.cell
    have f04 := c4.cell
    have f09 := q9.cell
    have f0B := qB.cell
    have n30 : b3 ≠ b0 := by omega
    have n31 : b3 ≠ b1 := by omega
    have n32 : b3 ≠ b2 := by omega
    have n40 : b4 ≠ b0 := by omega
    have n41 : b4 ≠ b1 := by omega
    have n42 : b4 ≠ b2 := by omega
    have n90 : X.heap.size ≠ b0 := by omega
    have n91 : X.heap.size ≠ b1 := by omega
    have n92 : X.heap.size ≠ b2 := by omega
    have f11 := (c1.other (show b1 ≠ b0 by omega) (.slice Av nv cv)).cell
    have d13 := c3.other n30 (.slice Av nv cv)
    have d14 := c4.other n40 (.slice Av nv cv)
    have d19 := q9.other n90 (.slice Av nv cv)
    have d1B := qB.other hB6.1 (.slice Av nv cv)
    have d23 := d13.other n31 (.int .i64 (endOf goods : Int))
    have d24 := d14.other n41 (.int .i64 (endOf goods : Int))
    have d29 := d19.other n91 (.int .i64 (endOf goods : Int))
    have d2B := d1B.other hB6.2.1 (.int .i64 (endOf goods : Int))
    have f33 := (d23.other n32 (.int .i64 err)).cell
    have f34 := (d24.other n42 (.int .i64 err)).cell
    have f39 := (d29.other n92 (.int .i64 err)).cell
    have f3B := (d2B.other hB6.2.2 (.int .i64 err)).cell
    have f13 := d13.cell
    have f14 := d14.cell
    have f19 := d19.cell
    have f1B := d1B.cell
    have f23 := d23.cell
    have f24 := d24.cell
    have f29 := d29.cell
    have f2B := d2B.cell
    have f22 := ((c2.other (show b2 ≠ b0 by omega) (.slice Av nv cv)).other (show b2 ≠ b1 by omega) (.int .i64 (endOf goods : Int))).cell
    clear d13 d14 d19 d1B d23 d24 d29 d2B n30 n31 n32 n40 n41 n42 n90 n91 n92
    have HFIN := Aside0.mk hfin
    have HKO := Aside0.mk hko
    clear e0 c1 c2 c3 c4 q0 q9 qB hfin hko hW1 hW2 hx9 hn0 hn1 hn2 hn3 hn4 hn5 hB6 hX6 hxl hown k5 hW0 hv
    have hmx : Tryd.prog.follows .mixedOrders = true := by kernel_rfl
    gi_wp2_with (first | (refine ⟨trivial, ?_⟩; gi_at_call 28; (with_reducible refine CallsIn.mono (CallsIn.inRound l (callsIn_wide.2 HAS.out)) ?_); rintro e w' ⟨rfl, rfl⟩))
    refine startIn_ (m := 9) (S := fun wz => wz.cell? ⟨b3, 0, none⟩ = some (.slice Av nv cv) ∧ wz.cell? ⟨b4, 0, none⟩ = some (.int .i64 (endOf goods : Int)) ∧ wz.cell? ⟨X.heap.size, 0, none⟩ = some (.pointer (some ⟨B, 0, none⟩)) ∧ wz.cell? ⟨B, 0, none⟩ = some (.int .i64 err)) (ds := []) (R := fun wz => wz = (((w'.setCell ⟨b0, 0, none⟩ (.slice Av nv cv)).setCell ⟨b1, 0, none⟩ (.int .i64 (endOf goods : Int))).setCell ⟨b2, 0, none⟩ (.int .i64 err)).drew) #[false, false, false, false, false, false, false, false, false] (by kernel_rfl) (by kernel_rfl) rfl rfl ⟨f03, f04, f09, f0B⟩ (fun hHeld => ?_) ?_
    · refine take_ (i := 0) (N := some 17) (v := ?_) (a' := ?_) #[true, false, false, false, false, false, false, false, false] rfl rfl (by kernel_rfl) (fun _ _ _ h => h) (Or.inl ⟨by rfl, ?_⟩) hHeld ?_ ?_
      rotate_left
      · rintro w' ⟨s0, s1, s2, s3⟩
        go_simp
        with_reducible rfl
      rotate_left
      · simp only [Act.put, List.setIfInBounds_toArray, List.set_cons_zero, List.set_cons_succ, i64_w, i32_w]
        rfl
      refine take_ (i := 1) (N := some 18) (v := ?_) (a' := ?_) #[true, true, false, false, false, false, false, false, false] rfl rfl (by kernel_rfl) (fun _ _ _ h => h) (Or.inl ⟨by rfl, ?_⟩) hHeld ?_ ?_
      rotate_left
      · rintro w' ⟨s0, s1, s2, s3⟩
        go_simp
        with_reducible rfl
      rotate_left
      · simp only [Act.put, List.setIfInBounds_toArray, List.set_cons_zero, List.set_cons_succ, i64_w, i32_w]
        rfl
      refine take_ (i := 2) (N := some 19) (v := ?_) (a' := ?_) #[true, true, true, false, false, false, false, false, false] rfl rfl (by kernel_rfl) (fun _ _ _ h => h) (Or.inl ⟨by rfl, ?_⟩) hHeld ?_ ?_
      rotate_left
      · rintro w' ⟨s0, s1, s2, s3⟩
        go_simp
        with_reducible rfl
      rotate_left
      · simp only [Act.put, List.setIfInBounds_toArray, List.set_cons_zero, List.set_cons_succ, i64_w, i32_w]
        rfl
      refine pure_ (i := 3) (N := some 20) (v := ?_) (a' := ?_) #[true, true, true, true, false, false, false, false, false] rfl rfl (by kernel_rfl) (fun _ _ _ h => h) (Or.inl ⟨by rfl, ?_⟩) ?_ ?_
      rotate_left
      · intro w'
        go_simp
        with_reducible rfl
      rotate_left
      · simp only [Act.put, List.setIfInBounds_toArray, List.set_cons_zero, List.set_cons_succ, i64_w, i32_w]
        rfl
      refine pure_ (i := 4) (N := some 21) (v := ?_) (a' := ?_) #[true, true, true, true, true, false, false, false, false] rfl rfl (by kernel_rfl) (fun _ _ _ h => h) (Or.inl ⟨by rfl, ?_⟩) ?_ ?_
      rotate_left
      · intro w'
        go_simp
        with_reducible rfl
      rotate_left
      · simp only [Act.put, List.setIfInBounds_toArray, List.set_cons_zero, List.set_cons_succ, i64_w, i32_w]
        rfl
      refine take_ (i := 5) (N := some 22) (v := ?_) (a' := ?_) #[true, true, true, true, true, true, false, false, false] rfl rfl (by kernel_rfl) (fun _ _ _ h => h) (Or.inl ⟨by rfl, ?_⟩) hHeld ?_ ?_
      rotate_left
      · rintro w' ⟨s0, s1, s2, s3⟩
        go_simp
        with_reducible rfl
      rotate_left
      · simp only [Act.put, List.setIfInBounds_toArray, List.set_cons_zero, List.set_cons_succ, i64_w, i32_w]
        rfl
      refine one_ (i := 6) (N := none) #[true, true, true, true, true, true, true, false, false] rfl rfl (by kernel_rfl) (by decide) (fun K hK => ?_)
      refine skip_ (w1 := ?_) (by rfl) rfl ?_ ?_
      rotate_left
      · go_simp
        with_reducible rfl
      refine hK.out _ _ ⟨f13, f14, f19, f1B⟩ (fun hHeld => ?_)
      clear hK K
      refine one_ (i := 7) (N := none) #[true, true, true, true, true, true, true, true, false] rfl rfl (by kernel_rfl) (by decide) (fun K hK => ?_)
      refine skip_ (w1 := ?_) (by rfl) rfl ?_ ?_
      rotate_left
      · go_simp
        with_reducible rfl
      refine hK.out _ _ ⟨f23, f24, f29, f2B⟩ (fun hHeld => ?_)
      clear hK K
      refine one_ (i := 8) (N := none) #[true, true, true, true, true, true, true, true, true] rfl rfl (by kernel_rfl) (by decide) (fun K hK => ?_)
      refine skip_ (w1 := ?_) (by rfl) rfl ?_ ?_
      rotate_left
      · go_simp
        with_reducible rfl
      refine hK.out _ _ ⟨f33, f34, f39, f3B⟩ (fun hHeld => ?_)
      clear hK K
      exact done_ (by kernel_rfl) ⟨rfl, rfl⟩
    · rintro a' wz rfl
      gi_wp2
      exact ⟨(HKO.out.trans (((KeepsOthers.setCell _ _ _).trans (KeepsOthers.setCell _ _ _)).trans ((KeepsOthers.setCell _ _ _).trans (KeepsOthers.drew _)))).from _, _, HFIN.out.drewI⟩
  case done =>
    intro he D W hD hi hK
    obtain ⟨v, hv⟩ := hi
    obtain ⟨Av, nv, cv, rfl⟩ := row_form hv.row
    obtain ⟨hn0, hn1, hn2, hn3, hn4, hn5⟩ := HE.out
    subst he
    have hfin := hv.results (.slice Av nv cv) (.int .i64 (endOf goods : Int)) (.int .i64 0)
    have c0' := hv.b0
    have c1' := hv.b1
    have c2' := hv.b2
    have c3' := hv.out
    have c4' := hv.at_
    rw [hn0] at c0'
    rw [hn1] at c1'
    rw [hn2] at c2'
    rw [hn3] at c3'
    rw [hn4] at c4'
    rw [hn1, hn2, hn0] at hfin
    have hDL : b4 < D := by have := HWS.out; omega
    have f00f := c0'.frozen
    have f00 := c0'.cell
    have f01f := c1'.frozen
    have f02f := c2'.frozen
    have f03 := c3'.cell
    have f04 := c4'.cell
    have d3 := c3'.other (show b3 ≠ b0 by omega) (.slice Av nv cv)
    have d4 := c4'.other (show b4 ≠ b0 by omega) (.slice Av nv cv)
    have f13 := d3.cell
    have f14 := d4.cell
    have f23 := (d3.other (show b3 ≠ b1 by omega) (.int .i64 (endOf goods : Int))).cell
    have f24 := (d4.other (show b4 ≠ b1 by omega) (.int .i64 (endOf goods : Int))).cell
    have f33 := ((d3.other (show b3 ≠ b1 by omega) (.int .i64 (endOf goods : Int))).other (show b3 ≠ b2 by omega) (.int .i64 0)).cell
    have f34 := ((d4.other (show b4 ≠ b1 by omega) (.int .i64 (endOf goods : Int))).other (show b4 ≠ b2 by omega) (.int .i64 0)).cell
    have f11 := (c1'.other (show b1 ≠ b0 by omega) (.slice Av nv cv))
    have f11f := f11.frozen
    have f11 := f11.cell
    have f22 := ((c2'.other (show b2 ≠ b0 by omega) (.slice Av nv cv)).other (show b2 ≠ b1 by omega) (.int .i64 (endOf goods : Int)))
    have f22f := f22.frozen
    have f22 := f22.cell
    have g0 := hfin.b0
    have g1 := hfin.b1
    have g2 := hfin.b2
    have HFIN := Aside0.mk hfin
    have HVB := Aside0.mk hv.bel
    have HDD := Aside0.mk hD
    have HDL := Aside0.mk hDL
    have hKD := Aside0.mk (show ((((W.setCell ⟨b0, 0, none⟩ (.slice Av nv cv)).setCell ⟨b1, 0, none⟩ (.int .i64 (endOf goods : Int))).setCell ⟨b2, 0, none⟩ (.int .i64 0)).drew).heap[D]? = some (.deferred (some [])) from
      (((heapOther _ _ _ _ (by omega)).trans (heapOther _ _ _ _ (by omega))).trans (heapOther _ _ _ _ (by omega))).trans hK)
    clear hK d3 d4 c0' c1' c2' c3' c4' hv hn0 hn1 hn2 hn3 hn4 hn5 hfin hD
    have hmx : Tryd.prog.follows .mixedOrders = true := by kernel_rfl
    gi_wp2
    refine startW_ (m := 5) (S := fun w' => w'.cell? ⟨b3, 0, none⟩ = some (.slice Av nv cv) ∧ w'.cell? ⟨b4, 0, none⟩ = some (.int .i64 (endOf goods : Int))) (ds := []) (R := fun a' w' => a'.defers = [{ target := .collected D, args := #[] }] ∧ a'.tmps.getD 2 undef = .pointer (some ⟨b0, 0, none⟩) ∧ a'.tmps.getD 3 undef = .pointer (some ⟨b1, 0, none⟩) ∧ a'.tmps.getD 4 undef = .pointer (some ⟨b2, 0, none⟩) ∧ w' = (((W.setCell ⟨b0, 0, none⟩ (.slice Av nv cv)).setCell ⟨b1, 0, none⟩ (.int .i64 (endOf goods : Int))).setCell ⟨b2, 0, none⟩ (.int .i64 0)).drew) #[false, false, false, false, false] (by kernel_rfl) rfl rfl ⟨f03, f04⟩ (fun hHeld => ?_) ?_
    · refine take_ (i := 0) (N := some 30) (v := ?_) (a' := ?_) #[true, false, false, false, false] rfl rfl (by kernel_rfl) (fun _ _ _ h => absurd h.1 (by simp)) (Or.inl ⟨by rfl, ?_⟩) hHeld ?_ ?_
      rotate_left
      · rintro w' ⟨s0, s1⟩
        go_simp
        with_reducible rfl
      rotate_left
      · simp only [Act.put, List.setIfInBounds_toArray, List.set_cons_zero, List.set_cons_succ, i64_w, i32_w]
        rfl
      refine take_ (i := 1) (N := some 31) (v := ?_) (a' := ?_) #[true, true, false, false, false] rfl rfl (by kernel_rfl) (fun _ _ _ h => absurd h.1 (by simp)) (Or.inl ⟨by rfl, ?_⟩) hHeld ?_ ?_
      rotate_left
      · rintro w' ⟨s0, s1⟩
        go_simp
        with_reducible rfl
      rotate_left
      · simp only [Act.put, List.setIfInBounds_toArray, List.set_cons_zero, List.set_cons_succ, i64_w, i32_w]
        rfl
      refine one_ (i := 2) (N := none) #[true, true, true, false, false] rfl rfl (by kernel_rfl) (by decide) (fun K hK => ?_)
      refine skip_ (w1 := ?_) (by rfl) rfl ?_ ?_
      rotate_left
      · go_simp
        with_reducible rfl
      refine hK.out _ _ ⟨f13, f14⟩ (fun hHeld => ?_)
      clear hK K
      refine one_ (i := 3) (N := none) #[true, true, true, true, false] rfl rfl (by kernel_rfl) (by decide) (fun K hK => ?_)
      refine skip_ (w1 := ?_) (by rfl) rfl ?_ ?_
      rotate_left
      · go_simp
        with_reducible rfl
      refine hK.out _ _ ⟨f23, f24⟩ (fun hHeld => ?_)
      clear hK K
      refine one_ (i := 4) (N := none) #[true, true, true, true, true] rfl rfl (by kernel_rfl) (by decide) (fun K hK => ?_)
      refine skip_ (w1 := ?_) (by rfl) rfl ?_ ?_
      rotate_left
      · go_simp
        with_reducible rfl
      refine hK.out _ _ ⟨f33, f34⟩ (fun hHeld => ?_)
      clear hK K
      exact done_ (by kernel_rfl) ⟨rfl, rfl, rfl, rfl, rfl, rfl⟩
    · rintro ⟨tm, df⟩ w' ⟨hds, ht2, ht3, ht4, rfl⟩
      dsimp only at hds ht2 ht3 ht4
      subst hds
      gi_wp2
      have hK' : ((((W.setCell ⟨b0, 0, none⟩ (.slice Av nv cv)).setCell ⟨b1, 0, none⟩ (.int .i64 (endOf goods : Int))).setCell ⟨b2, 0, none⟩ (.int .i64 0)).drew).heap[D]? = some (.deferred (some [])) := hKD.out
      refine ⟨by simp, .inl ⟨_, _, rfl, run_takeDeferred hK', ?_⟩⟩
      have hn := HE.out
      exact ret14 (L := .slice A0 l0.length c0) (v := .slice Av nv cv) (by have h := HFIN.out.drewI; rw [hn.1]; exact h) (by have := HWS.out; have := HDD.out; omega) hK' _ (by rw [hn.1]; exact ht2) (by rw [hn.2.1]; exact ht3) (by rw [hn.2.2.1]; exact ht4)
  case stop =>
    rintro he D W hD ⟨v, hv⟩ hK
    have hn := HE.out
    gi_wp2
    refine ⟨by simp, .inl ⟨_, _, rfl, run_takeDeferred hK, ?_⟩⟩
    exact ret14 hv (by have := HWS.out; omega) hK _ (by rw [hn.1]; rfl) (by rw [hn.2.1]; rfl) (by rw [hn.2.2.1]; rfl)

def store_Read.f (l0 : List Int) : Option (List S24 × Int × Int) :=
  if bytesB l0 = true ∧ l0.length ≤ 100000000000 then some (entsOf (scan (l0.length + 1) l0 0).1, (endOf (scan (l0.length + 1) l0 0).1 : Int), (scan (l0.length + 1) l0 0).2) else none
theorem store_Read.calls (A0 : Option Addr) (c0 : Nat) (l0 : List Int) (r1 : List S24) (r2 r3 : Int) (w : World) (hg : GOK w) (hr0 : Kd.C (Kd.int .u8) w A0 l0.length l0) (hc0 : l0.length ≤ c0) (h : store_Read.f l0 = some (r1, r2, r3)) :
    Calls Tryd.prog 14 #[.slice A0 l0.length c0] w fun e w' => ∃ v0_ : Value, e = .returned (.tuple #[v0_, .int .i64 r2, .int .i64 r3]) ∧ Kd.R k24 24 w' w.heap.size (fun _ => True) v0_ r1 ∧ Below w.heap.size w w' := by
  unfold store_Read.f at h
  by_cases hm : bytesB l0 = true ∧ l0.length ≤ 100000000000
  · rw [if_pos hm] at h
    cases h
    exact callsIn_wide.1 (read_in A0 c0 l0 w hg hr0 hc0 hm.1 hm.2 _ _ rfl)
  · rw [if_neg hm] at h; cases h
end Go.Proofs.YtkeegknadegaaaaDoor.Q
