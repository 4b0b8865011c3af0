/-
  ModpReduce: what is made of polynomials with whole coefficients, and then taken modulo a prime, is made alike of what they are modulo it (the row, the walk and the plain words), part 5 of 13 (packed by pack.py from texts of this session).
-/
import Derived.Test.YtjbcnppbcomaiaaGreatDoorPR1
import Derived.Test.YtjbcnppbcomaiaaGreatDoorPR3
import Derived.Test.YtjbcnppbcomaiaaGreatDoorPR4
import Derived.RangeFuncBox
set_option maxRecDepth 100000
set_option maxHeartbeats 8000000
set_option linter.unusedVariables false
namespace Go.Proofs.YtjbcnppbcomaiaaGreatDoor.Q
open Go.RowKit Go.Proofs.YtjbcnppbcomaiaaGreatDoorW.PrintWords Go.Proofs.YtjbcnppbcomaiaaGreatDoorW.PrintLast Go.Proofs.YtjbcnppbcomaiaaGreatDoorW.PrintMore
attribute [local go_sem] max2_int min2_int max_two min_two max_three min_three max_four min_four
set_option linter.unusedVariables false
set_option linter.unusedSimpArgs false
theorem info46 : (Tryz.prog.info? 46).map (fun i => (i.zero, i.size, i.bytes)) = some (some (.agg #[(.slice none 0 0), (.int .i64 0)]), 2, 32) := by kernel_rfl
abbrev wayA : Array Value := #[.func (.func 128) #[] #[], .func (.func 129) #[] #[]]
structure KW (w W : World) (S : Nat → Prop) : Prop where
 os : W.os = w.os
 tape : W.tape = w.tape
 output : W.output = w.output
 kp : Kept w W S
namespace KW
variable {w W W2 : World} {S S2 : Nat → Prop}
theorem refl (w : World) (S : Nat → Prop) : KW w w S := ⟨rfl, rfl, rfl, Kept.refl w S⟩
theorem size (h : KW w W S) : w.heap.size ≤ W.heap.size := h.kp.1
theorem of_below (h : Below w.heap.size w W) (S : Nat → Prop) : KW w W S := ⟨h.os, h.tape, h.output, Kept.of_below h S⟩
theorem then_ (h : KW w W S) (k : KW W W2 S2) (hs : ∀ k, S2 k → S k ∨ w.heap.size ≤ k) : KW w W2 S := ⟨k.os.trans h.os, k.tape.trans h.tape, k.output.trans h.output, h.kp.then_ k.kp hs⟩
theorem below (h : KW w W S) (hb : Below W.heap.size W W2) : KW w W2 S := ⟨hb.os.trans h.os, hb.tape.trans h.tape, hb.output.trans h.output, h.kp.below hb⟩
theorem of_grown {row : Option Nat} (hg : W.grownBy W2 row) (h : KW w W S) (hr : ∀ k, row = some k → S k ∨ w.heap.size ≤ k) : KW w W2 S := ⟨hg.os.trans h.os, hg.tape.trans h.tape, hg.output.trans h.output, Kept.of_grown hg h.kp hr⟩
theorem setCell (h : KW w W S) {p : Addr} (hp : S p.block ∨ w.heap.size ≤ p.block) (u : Value) : KW w (W.setCell p u) S := ⟨h.os, h.tape, h.output, h.kp.setCell hp u⟩
theorem below_of (h : KW w W S) (hs : ∀ k, S k → w.heap.size ≤ k) : Below w.heap.size w W := ⟨h.os, h.tape, h.output, h.kp.1, fun k hk => h.kp.2 k hk (fun h2 => by have := hs k h2; omega)⟩
end KW
structure OS (B3 B6 B7 : Nat) (p : Int) (base : Nat) (w : World) (v : Value) (out : List S52) : Prop where
 b3 : w.heap[B3]? = some (.cells #[.int .u32 p] 23 (0, 0))
 b6 : w.heap[B6]? = some (.cells #[v] 34 (0, 0))
 b7 : w.heap[B7]? = some (.cells wayA 65 (0, 0))
 row : Kd.N k52 46 w base (fun k => k ≠ B6) v out
def VS (B6 : Nat) (v0 : Value) (w : World) (v : Value) (xs : List Int) : Prop := Kd.V (Kd.int .u32) 23 w w.heap.size (fun k => k ≠ B6 ∧ some k ≠ v0.ownBlock) v xs
def Wr (B6 : Nat) (v : Value) (k : Nat) : Prop := k = B6 ∨ some k = v.ownBlock
section
variable {B3 B6 B7 base : Nat} {p : Int} {w w1 : World} {v v1 u : Value} {out : List S52} {xs : List Int}
theorem OS.below (h : OS B3 B6 B7 p base w v out) (hb : Below w.heap.size w w1) : OS B3 B6 B7 p base w1 v out :=
 ⟨(hb.block _ (blk_lt h.b3)).trans h.b3, (hb.block _ (blk_lt h.b6)).trans h.b6, (hb.block _ (blk_lt h.b7)).trans h.b7, Kd.N_below h.row hb⟩
theorem VS.below (h : VS B6 v w u xs) (hb : Below w.heap.size w w1) : VS B6 v w1 u xs := Kd.V_below h hb
theorem VS.new (h : Kd.V (Kd.int .u32) 23 w1 w.heap.size (fun k => w.heap.size ≤ k) u xs) (hO : OS B3 B6 B7 p base w v out) : VS B6 v w1 u xs :=
 Kd.V_mono h (fun k hk => ⟨fun he => by have := blk_lt hO.b6; omega, fun he => by have := Kd.N_lt hO.row k he.symm; omega⟩)
theorem VS.told (h : VS B6 v w u xs) (hk : KW w w1 (Wr B6 v)) (hat : v1.ownBlock = v.ownBlock ∨ ∃ b, v1.ownBlock = some b ∧ w.heap.size ≤ b) : VS B6 v1 w1 u xs := by
 have h1 := Kd.V_kept (Kd.V_bound h) hk.kp (fun k hk' hs => hs.elim hk'.1.1 hk'.1.2)
 refine Kd.V_mono h1 (fun k hk' => ⟨hk'.1.1, fun he => ?_⟩)
 rcases hat with e | ⟨b, e, hb⟩
 · exact hk'.1.2 (he.trans e)
 · rw [e] at he
   injection he with he
   have := hk'.2
   omega
theorem Wr.then_ {w2 : World} (hk : KW w w1 (Wr B6 v)) (hat : v1.ownBlock = v.ownBlock ∨ ∃ b, v1.ownBlock = some b ∧ w.heap.size ≤ b) (hk2 : KW w1 w2 (Wr B6 v1)) : KW w w2 (Wr B6 v) := by
 refine hk.then_ hk2 (fun k hs => ?_)
 rcases hs with hs | hs
 · exact .inl (.inl hs)
 · rcases hat with e | ⟨b, e, hb⟩
   · exact .inl (.inr (hs.trans e))
   · rw [e] at hs
     injection hs with hs
     exact .inr (by omega)
theorem hat_trans {v2 : Value} {n m : Nat} (h : v1.ownBlock = v.ownBlock ∨ ∃ b, v1.ownBlock = some b ∧ n ≤ b) (h2 : v2.ownBlock = v1.ownBlock ∨ ∃ b, v2.ownBlock = some b ∧ m ≤ b) (hnm : n ≤ m) : v2.ownBlock = v.ownBlock ∨ ∃ b, v2.ownBlock = some b ∧ n ≤ b := by
 rcases h2 with e | ⟨b, e, hb⟩
 · rw [e]; exact h
 · exact .inr ⟨b, e, by omega⟩
end
def modp_tell.l0 : Nat → Int → List (List Int) → Int → List S52 → Option (List S52)
 | 0, _, _, _, _ => none
 | k + 1, a1, L, i, out => if i < (L.length : Int) then (if 0 ≤ i then (if out.length < 4398046511104 then (modp_tell.l0 k a1 L (wrap64 (i + 1)) (out ++ [(⟨rd_L2 L i, a1⟩ : S52)])) else none) else none) else some out
def modp_tell.f (k : Nat) (l0 : List Int) (a1 : Int) (p : Int) (out : List S52) : Option (List S52) := (modp_matrix.f k l0 p).bind fun L => modp_tell.l0 k a1 L 0 out
theorem modp_tell.calls (k : Nat) (A0 : Option Addr) (c0 : Nat) (l0 : List Int) (a1 : Int) (p : Int) (B3 B6 B7 base : Nat) (v : Value) (out r : List S52) (w : World) (hO : OS B3 B6 B7 p base w v out) (hbase : base ≤ B6) (hv : VS B6 v w (.slice A0 l0.length c0) l0) (h : modp_tell.f k l0 a1 p out = some r) :
   Calls Tryz.prog 39 #[.slice A0 l0.length c0, .int .i64 a1, .pointer (some ⟨B7, 0, none⟩), .pointer (some ⟨B3, 0, none⟩), .pointer (some ⟨B6, 0, none⟩)] w fun e w' => e = .returned (.tuple #[]) ∧ ∃ v', OS B3 B6 B7 p base w' v' r ∧ (v'.ownBlock = v.ownBlock ∨ ∃ b, v'.ownBlock = some b ∧ w.heap.size ≤ b) ∧ KW w w' (Wr B6 v) := by
 have hu52 := Tryz.underlying46
 obtain ⟨L, hL, hl⟩ := Option.bind_eq_some_iff.1 h
 clear h
 have HL := am hL
 have H' := am hl
 have HV := am hv
 have HO := am hO
 have hx7 : w.cell? ⟨B7, 1, none⟩ = some (.func (.func 129) #[] #[]) := by simp [World.cell?, hO.b7]
 have hx3 : w.cell? ⟨B3, 0, none⟩ = some (.int .u32 p) := by simp [World.cell?, hO.b3]
 clear hL hl hv hO
 go_enter Tryz.func39, Tryz.ntmps39
 go_wp2_with (go_at_call 129; refine (modp_matrix.calls k _ _ _ l0 p L _ HV.out HL.out).mono ?_; rintro e1 w1 ⟨v0, rfl, h0, hb⟩; have N0 := am h0; have HO1 := am (HO.out.below hb); have K1 := am (KW.of_below hb (Wr B6 v)); have HZ := am hb.size; clear h0 hb; obtain ⟨Ao6, co6, eo6⟩ := Kd.N_slice N0.out; subst eo6)
 go_loopg [15] k (fun kq v15 w' => ∃ (x15 : Int) (x28 : List S52) (vc : Value), v15 = .int .i64 x15 ∧ Aside0 (modp_tell.l0 kq a1 L x15 x28 = some r) ∧ Aside0 (kq ≤ k) ∧ Aside0 (OS B3 B6 B7 p base w' vc x28) ∧ Aside0 (Kd.N (Kd.slice 23 (Kd.int .u32)) 27 w' w.heap.size (fun k_ => k_ ≠ B6 ∧ some k_ ≠ vc.ownBlock) (.slice Ao6 L.length co6) L) ∧ Aside0 (vc.ownBlock = v.ownBlock ∨ ∃ b, vc.ownBlock = some b ∧ w.heap.size ≤ b) ∧ Aside0 (KW w w' (Wr B6 v)))
 case atStart => exact ⟨0, out, v, rfl, H', ⟨Nat.le_refl _⟩, HO1, ⟨Kd.N_mono N0.out (fun k_ hk => hk.elim (fun h_ => h_) (fun h_ => ⟨fun he => by have := blk_lt HO.out.b6; omega, fun he => by have := Kd.N_lt HO.out.row k_ he.symm; omega⟩))⟩, ⟨.inl rfl⟩, K1⟩
 obtain ⟨x15, x28, vc, rfl, HA, HK1, HOc, HN, HAT, HKc⟩ := hrel
 rcases gk with _ | k1
 · exact absurd HA.out (by simp [modp_tell.l0])
 have H := HA.out
 clear HA
 simp only [modp_tell.l0] at H
 by_cases c7 : x15 < (L.length : Int)
 case neg =>
   rw [if_neg c7] at H
   have c7b : decide (x15 < (L.length : Int)) = false := decide_eq_false c7
   clear c7
   cases H
   go_wp2
   go_end0
   exact ⟨rfl, vc, HOc.out, HAT.out, HKc.out⟩
 rw [if_pos c7] at H
 by_cases c8 : 0 ≤ x15
 case neg =>
   rw [if_neg c8] at H
   cases H
 rw [if_pos c8] at H
 by_cases c10 : x28.length < 4398046511104
 case neg =>
   rw [if_neg c10] at H
   cases H
 rw [if_pos c10] at H
 have LM := am c10
 clear c10
 obtain ⟨ad, A0_, c0_, e0, hx, hl, hi⟩ := at_L2 (Kd.N_reads' HN.out).2.2 x15 c8 c7
 cases e0
 obtain ⟨ce, hce, hMe, hcc⟩ := Kd.N_get HN.out [] x15 c8 c7
 obtain ⟨ua, uc, rfl, ul, ge⟩ := Kd.FK_slice_open hMe
 have hv_ := hcc 0 _ rfl
 rw [Nat.add_zero, show ((Kd.slice 23 (Kd.int .u32))).sz = 1 from rfl, Nat.mul_one] at hv_
 replace hv_ := Option.some.inj (hv_.symm.trans hx)
 injection hv_ with hva_ hvn_ hvc_
 rw [hva_] at ge
 rw [hvc_] at ul
 have HLv := am (show Kd.V (Kd.int .u32) 23 _ w.heap.size _ _ (rd_L2 L x15) from Kd.V_mk ul ge)
 have HEL := am (k52_mkF _ _ (⟨rd_L2 L x15, a1⟩ : S52) ul (Kd.F_mono ge (ok' := fun k_ => k_ ≠ B6 ∧ some k_ ≠ vc.ownBlock) (fun k_ hk => hk.1)))
 clear hva_ hvn_ hvc_ ge ul hcc hce hi hl
 have c7b : decide (x15 < (L.length : Int)) = true := decide_eq_true c7
 have c8b : decide (0 ≤ x15) = true := decide_eq_true c8
 have c7c := eq_true c7
 have c8c := eq_true c8
 clear c7 c8
 obtain ⟨Ac_, cc_, ec_⟩ := Kd.N_slice HOc.out.row
 subst ec_
 have hx6 : wr.cell? ⟨B6, 0, none⟩ = some (.slice Ac_ x28.length cc_) := by simp [World.cell?, HOc.out.b6]
 have H2 := am H
 clear H
 go_wp2_with (first | ((with_reducible refine gate_builtin (b := .append) (xs := #[.tmp 19, .tmp 23]) rfl ?_); at_builtin; refine Kd.N_append k52 (w0 := wr) base rfl (.tmp 19) (.tmp 23) 34 46 (.agg #[(.slice none 0 0), (.int .i64 0)]) 32 rfl Tryz.underlying34 info46 rfl (by decide) (by omega) (.slice Ac_ x28.length cc_) x28 (⟨rd_L2 L x15, a1⟩ : S52) [.slice A0_ (rd_L2 L x15).length c0_, .int .i64 a1] (fun k_ => k_ ≠ B6) (fun k_ => k_ ≠ B6 ∧ some k_ ≠ (.slice Ac_ x28.length cc_ : Value).ownBlock) rfl rfl HEL.out (fun _ hk => hk) (fun k_ hk => by have := blk_lt HOc.out.b6; omega) HOc.out.row (Below.refl _ _) (by have := blk_lt HOc.out.b6; omega) (by have := LM.out; omega) ?_; intro v2 w2 ho hb hg hat; have NO := am ho; have HG := am hg; have HT := am hat; have hb6_ : w2.heap[B6]? = some (.cells #[(.slice Ac_ x28.length cc_)] 34 (0, 0)) := (hg.block _ (blk_lt HOc.out.b6) (Kd.N_ne HOc.out.row HOc.out.b6 (by decide))).trans HOc.out.b6; have hx62 : w2.cell? ⟨B6, 0, none⟩ = some (.slice Ac_ x28.length cc_) := (by simp [World.cell?, hb6_]); have hf62 : w2.frozen? ⟨B6, 0, none⟩ = false := blk_frozen hb6_ _; have HB6 := am hb6_; clear hb6_ ho hb hg hat; obtain ⟨A2_, c2_, e2_⟩ := Kd.N_slice NO.out; subst e2_))
 have hlen_ : (x28 ++ [(⟨rd_L2 L x15, a1⟩ : S52)]).length = x28.length + 1 := by simp
 rw [hlen_] at NO HT
 have hw6 := blk_lt HB6.out
 have hne3 : B3 ≠ B6 := fun e_ => by have h_ := HOc.out.b3; rw [e_, HOc.out.b6] at h_; injection h_ with h_; injection h_ with _ h_; exact absurd h_ (by decide)
 have hne7 : B7 ≠ B6 := fun e_ => by have h_ := HOc.out.b7; rw [e_, HOc.out.b6] at h_; injection h_ with h_; injection h_ with _ h_; exact absurd h_ (by decide)
 have hb3 : w2.heap[B3]? = some (.cells #[.int .u32 p] 23 (0, 0)) := (HG.out.block _ (blk_lt HOc.out.b3) (Kd.N_ne HOc.out.row HOc.out.b3 (by decide))).trans HOc.out.b3
 have hb7 : w2.heap[B7]? = some (.cells wayA 65 (0, 0)) := (HG.out.block _ (blk_lt HOc.out.b7) (Kd.N_ne HOc.out.row HOc.out.b7 (by decide))).trans HOc.out.b7
 have hO2 : OS B3 B6 B7 p base (w2.setCell ⟨B6, 0, none⟩ (.slice A2_ (x28.length + 1) c2_)) (.slice A2_ (x28.length + 1) c2_) (x28 ++ [(⟨rd_L2 L x15, a1⟩ : S52)]) :=
   ⟨(Below.heap_setCell w2 ⟨B6, 0, none⟩ _ B3 hne3).trans hb3, blk_put (cs := #[.slice Ac_ x28.length cc_]) HB6.out 0 _ rfl, (Below.heap_setCell w2 ⟨B6, 0, none⟩ _ B7 hne7).trans hb7, Kd.N_far (p := ⟨B6, 0, none⟩) NO.out (fun _ hk => hk) _⟩
 have hN2 : Kd.N (Kd.slice 23 (Kd.int .u32)) 27 (w2.setCell ⟨B6, 0, none⟩ (.slice A2_ (x28.length + 1) c2_)) w.heap.size (fun k_ => k_ ≠ B6 ∧ some k_ ≠ ((.slice A2_ (x28.length + 1) c2_) : Value).ownBlock) (.slice (some ad) L.length co6) L :=
   Kd.N_far (p := ⟨B6, 0, none⟩) (Kd.N_afterv (ok := fun k_ => k_ ≠ B6) HN.out HG.out HT.out) (fun _ hk => hk.1) _
 have hT2 : ((.slice A2_ (x28.length + 1) c2_) : Value).ownBlock = v.ownBlock ∨ ∃ b, ((.slice A2_ (x28.length + 1) c2_) : Value).ownBlock = some b ∧ w.heap.size ≤ b := hat_trans HAT.out HT.out HKc.out.size
 have hK2 : KW w (w2.setCell ⟨B6, 0, none⟩ (.slice A2_ (x28.length + 1) c2_)) (Wr B6 v) := by
   refine KW.setCell (KW.of_grown HG.out HKc.out (fun k_ hk => ?_)) (.inl (.inl rfl)) _
   rcases HAT.out with e_ | ⟨b_, e_, hb_⟩
   · exact .inl (.inr (hk.symm.trans e_))
   · rw [hk] at e_; injection e_ with e_; exact .inr (by omega)
 go_roundg k1
 case measure => have := HK1.out; omega
 case rel => exact ⟨(wrap64 (x15 + 1)), _, _, (by first | rfl | (simp; done)), H2, ⟨by have := HK1.out; omega⟩, ⟨hO2⟩, ⟨hN2⟩, ⟨hT2⟩, ⟨hK2⟩⟩
def modp_parts.root : Nat → List Int → Int → List Int → Int → Option (List Int)
 | 0, _, _, _, _ => none
 | k + 1, c, p, x, i => if i < (c.length : Int) then (if 0 ≤ i then (if x.length < 35184372088832 then modp_parts.root k c p (x ++ [rd c i]) (wrap64 (i + wrap64 p)) else none) else none) else some x
mutual
def modp_parts.l0 : Nat → Int → Int → List Int → List Int → Int → List S52 → Option (List S52)
 | 0, _, _, _, _, _, _ => none
 | k + 1, p, often, c, w, i, out =>
   if (w.length : Int) > 1 then ((modp_Gcd.f k w c p).bind fun y => (modp_over.f k w y p).bind fun z => (if (z.length : Int) > 1 then modp_tell.f k z (wrap64 (i * often)) p out else some out).bind fun out2 => (modp_over.f k c y p).bind fun c2 => modp_parts.l0 k p often c2 y (wrap64 (i + 1)) out2)
   else if (c.length : Int) > 1 then ((modp_parts.root k c p [] 0).bind fun rt => modp_parts.f k rt p (wrap64 (often * wrap64 p)) out) else some out
def modp_parts.f : Nat → List Int → Int → Int → List S52 → Option (List S52)
 | 0, _, _, _, _ => none
 | k + 1, f, p, often, out => (modp_diff.f k f p).bind fun d => (modp_Gcd.f k f d p).bind fun c => (modp_over.f k f c p).bind fun w => modp_parts.l0 k p often c w 1 out
end
def Told (B3 B6 B7 : Nat) (p : Int) (base : Nat) (v : Value) (w : World) (r : List S52) (e : Ending) (w' : World) : Prop :=
 e = .returned (.tuple #[]) ∧ ∃ v', OS B3 B6 B7 p base w' v' r ∧ (v'.ownBlock = v.ownBlock ∨ ∃ b, v'.ownBlock = some b ∧ w.heap.size ≤ b) ∧ KW w w' (Wr B6 v)
theorem Told.step {B3 B6 B7 base : Nat} {p : Int} {v v1 : Value} {w w1 w2 : World} {r : List S52} {e : Ending} (hk : KW w w1 (Wr B6 v)) (hat : v1.ownBlock = v.ownBlock ∨ ∃ b, v1.ownBlock = some b ∧ w.heap.size ≤ b) (h : Told B3 B6 B7 p base v1 w1 r e w2) : Told B3 B6 B7 p base v w r e w2 := by
 obtain ⟨he, v2, hO, hat2, hk2⟩ := h
 exact ⟨he, v2, hO, hat_trans hat hat2 hk.size, Wr.then_ hk hat hk2⟩
theorem VS.reads {B6 : Nat} {v0 : Value} {w : World} {A : Option Addr} {n c : Nat} {xs : List Int} (h : VS B6 v0 w (.slice A n c) xs) : n = xs.length ∧ n ≤ c ∧ Kd.C (Kd.int .u32) w A xs.length xs := Kd.V_reads' h
theorem modp_parts.calls (n : Nat) : ∀ (k : Nat), k ≤ n → ∀ (A0 : Option Addr) (c0 : Nat) (l0 : List Int) (p often : Int) (B3 B6 B7 base : Nat) (v : Value) (out r : List S52) (w : World), OS B3 B6 B7 p base w v out → base ≤ B6 → VS B6 v w (.slice A0 l0.length c0) l0 → modp_parts.f k l0 p often out = some r →
   Calls Tryz.prog 37 #[.slice A0 l0.length c0, .int .u32 p, .int .i64 often, .func (.func 39) #[] #[.pointer (some ⟨B7, 0, none⟩), .pointer (some ⟨B3, 0, none⟩), .pointer (some ⟨B6, 0, none⟩)]] w fun e w' => Told B3 B6 B7 p base v w r e w' := by
 induction n with
 | zero =>
   intro k hk A0 c0 l0 p often B3 B6 B7 base v out r w hO hbase hv h
   obtain rfl : k = 0 := by omega
   simp [modp_parts.f] at h
 | succ n ih =>
   intro k hk A0 c0 l0 p often B3 B6 B7 base v out r w hO hbase hv h
   rcases k with _ | k
   · simp [modp_parts.f] at h
   rw [modp_parts.f] at h
   obtain ⟨d, hd, h⟩ := Option.bind_eq_some_iff.1 h
   obtain ⟨c, hc, h⟩ := Option.bind_eq_some_iff.1 h
   obtain ⟨x, hx, h⟩ := Option.bind_eq_some_iff.1 h
   have HD := am hd
   have HC := am hc
   have HX := am hx
   have H' := am h
   have HO := am hO
   have HV := am hv
   have IH := am ih
   have HBS := am hbase
   have HKN := am hk
   clear hd hc hx h hO hv ih hbase hk
   go_enter Tryz.func37, Tryz.ntmps37
   go_wp2_with (first
     | (go_at_call 61; (with_reducible refine (modp_diff.calls k _ _ l0 p d _ HV.out.reads.2.2 HV.out.reads.2.1 HD.out).mono ?_); rintro e1 w1 ⟨v1, rfl, h0, hb⟩; have HV1 := am (HV.out.below hb); have HO1 := am (HO.out.below hb); have HK1 := am (KW.of_below hb (Wr B6 v)); have HD1 := am (VS.new h0 HO.out); clear h0 hb; obtain ⟨Ad, cd, ed⟩ := Kd.V_slice HD1.out; subst ed)
     | (go_at_call 17; (with_reducible refine (modp_Gcd.callsV k _ _ l0 _ _ d p c _ HV1.out.reads.2.2 HV1.out.reads.2.1 HD1.out.reads.2.2 HD1.out.reads.2.1 HC.out).mono ?_); rintro e2 w2 ⟨v2, rfl, h0, hb⟩; have HV2 := am (HV1.out.below hb); have HC2 := am (VS.new h0 HO1.out); have HO2 := am (HO1.out.below hb); have HK2 := am (HK1.out.below hb); clear h0 hb; obtain ⟨Ac, cc, ec⟩ := Kd.V_slice HC2.out; subst ec)
     | (go_at_call 62; (with_reducible refine (modp_over.callsV k _ _ l0 _ _ c p x _ HV2.out.reads.2.2 HV2.out.reads.2.1 HC2.out.reads.2.2 HC2.out.reads.2.1 HX.out).mono ?_); rintro e3 w3 ⟨v3, rfl, h0, hb⟩; have HX3 := am (VS.new h0 HO2.out); have HC3 := am (HC2.out.below hb); have HO3 := am (HO2.out.below hb); have HK3 := am (HK2.out.below hb); clear h0 hb))
   go_loopg [8, 9, 10] k (fun kq v8 v9 v10 w' => ∃ (xc xw : List Int) (xi : Int) (xo : List S52) (vc : Value), v10 = .int .i64 xi ∧ Aside0 (modp_parts.l0 kq p often xc xw xi xo = some r) ∧ Aside0 (kq ≤ k) ∧ Aside0 (OS B3 B6 B7 p base w' vc xo) ∧ Aside0 (VS B6 vc w' v8 xc) ∧ Aside0 (VS B6 vc w' v9 xw) ∧ Aside0 (vc.ownBlock = v.ownBlock ∨ ∃ b, vc.ownBlock = some b ∧ w.heap.size ≤ b) ∧ Aside0 (KW w w' (Wr B6 v)))
   case atStart => exact ⟨c, x, 1, out, v, rfl, H', ⟨Nat.le_refl _⟩, HO3, HC3, HX3, ⟨.inl rfl⟩, HK3⟩
   obtain ⟨xc, xw, xi, xo, vc, rfl, HA, HKK, HOc, HCC, HWC, HATc, HKc⟩ := hrel
   rcases gk with _ | k1
   · exact absurd HA.out (by simp [modp_parts.l0])
   have H := HA.out
   clear HA
   simp only [modp_parts.l0] at H
   obtain ⟨Acc, ccc, ecc⟩ := Kd.V_slice HCC.out
   subst ecc
   obtain ⟨Aww, cww, eww⟩ := Kd.V_slice HWC.out
   subst eww
   by_cases c7 : (xw.length : Int) > 1
   · rw [if_pos c7] at H
     have c7a : decide ((xw.length : Int) > 1) = true := decide_eq_true c7
     have c7b : decide (1 < (xw.length : Int)) = true := decide_eq_true c7
     have c7c : decide (1 < xw.length) = true := decide_eq_true (by omega)
     clear c7
     obtain ⟨y, hy, H⟩ := Option.bind_eq_some_iff.1 H
     obtain ⟨z, hz, H⟩ := Option.bind_eq_some_iff.1 H
     obtain ⟨xo2, ht, H⟩ := Option.bind_eq_some_iff.1 H
     obtain ⟨c2, hc2, H⟩ := Option.bind_eq_some_iff.1 H
     have HY := am hy
     have HZ := am hz
     have HC2 := am hc2
     have HN := am H
     clear hy hz hc2 H
     by_cases c8 : (z.length : Int) > 1
     case neg =>
       rw [if_neg c8] at ht
       have c8a : decide ((z.length : Int) > 1) = false := decide_eq_false c8
       have c8b : decide (1 < (z.length : Int)) = false := decide_eq_false c8
       have c8c : decide (1 < z.length) = false := decide_eq_false (by omega)
       clear c8
       obtain rfl := Option.some.inj ht
       clear ht
       go_wp2_with (first
         | (go_at_call 17; (with_reducible refine (modp_Gcd.callsV k1 _ _ xw _ _ xc p y _ HWC.out.reads.2.2 HWC.out.reads.2.1 HCC.out.reads.2.2 HCC.out.reads.2.1 HY.out).mono ?_); rintro e1 w1 ⟨v1, rfl, h0, hb⟩; have HY1 := am (VS.new h0 HOc.out); have HW1 := am (HWC.out.below hb); have HCC1 := am (HCC.out.below hb); have HO1 := am (HOc.out.below hb); have HK1 := am (HKc.out.below hb); clear h0 hb; obtain ⟨Ay, cy, ey⟩ := Kd.V_slice HY1.out; subst ey)
         | (go_at_call 62; (with_reducible refine (modp_over.callsV k1 _ _ xw _ _ y p z _ HW1.out.reads.2.2 HW1.out.reads.2.1 HY1.out.reads.2.2 HY1.out.reads.2.1 HZ.out).mono ?_); rintro e2 w2 ⟨v2, rfl, h0, hb⟩; have HZ2 := am (VS.new h0 HO1.out); have HY2 := am (HY1.out.below hb); have HCC2 := am (HCC1.out.below hb); have HO2 := am (HO1.out.below hb); have HK2 := am (HK1.out.below hb); clear h0 hb; obtain ⟨Az, cz, ez⟩ := Kd.V_slice HZ2.out; subst ez)
         | (go_at_call 62; (with_reducible refine (modp_over.callsV k1 _ _ xc _ _ y p c2 _ HCC2.out.reads.2.2 HCC2.out.reads.2.1 HY2.out.reads.2.2 HY2.out.reads.2.1 HC2.out).mono ?_); rintro e4 w4 ⟨v4, rfl, h0, hb⟩; have HC4 := am (VS.new h0 HO2.out); have HY4 := am (HY2.out.below hb); have HO4 := am (HO2.out.below hb); have HK4 := am (HK2.out.below hb); clear h0 hb))
       go_roundg k1
       case measure => have := HKK.out; omega
       case rel => exact ⟨c2, y, (wrap64 (xi + 1)), xo, vc, (by first | rfl | (simp; done)), HN, ⟨by have := HKK.out; omega⟩, HO4, HC4, HY4, HATc, HK4⟩
     rw [if_pos c8] at ht
     have c8a : decide ((z.length : Int) > 1) = true := decide_eq_true c8
     have c8b : decide (1 < (z.length : Int)) = true := decide_eq_true c8
     have c8c : decide (1 < z.length) = true := decide_eq_true (by omega)
     clear c8
     have HT := am ht
     clear ht
     go_wp2_with (first
       | (go_at_call 17; (with_reducible refine (modp_Gcd.callsV k1 _ _ xw _ _ xc p y _ HWC.out.reads.2.2 HWC.out.reads.2.1 HCC.out.reads.2.2 HCC.out.reads.2.1 HY.out).mono ?_); rintro e1 w1 ⟨v1, rfl, h0, hb⟩; have HY1 := am (VS.new h0 HOc.out); have HW1 := am (HWC.out.below hb); have HCC1 := am (HCC.out.below hb); have HO1 := am (HOc.out.below hb); have HK1 := am (HKc.out.below hb); clear h0 hb; obtain ⟨Ay, cy, ey⟩ := Kd.V_slice HY1.out; subst ey)
       | (go_at_call 62; (with_reducible refine (modp_over.callsV k1 _ _ xw _ _ y p z _ HW1.out.reads.2.2 HW1.out.reads.2.1 HY1.out.reads.2.2 HY1.out.reads.2.1 HZ.out).mono ?_); rintro e2 w2 ⟨v2, rfl, h0, hb⟩; have HZ2 := am (VS.new h0 HO1.out); have HY2 := am (HY1.out.below hb); have HCC2 := am (HCC1.out.below hb); have HO2 := am (HO1.out.below hb); have HK2 := am (HK1.out.below hb); clear h0 hb; obtain ⟨Az, cz, ez⟩ := Kd.V_slice HZ2.out; subst ez)
       | (go_at_call 39; (with_reducible refine (modp_tell.calls k1 _ _ z (wrap64 (xi * often)) p B3 B6 B7 base vc xo xo2 _ HO2.out HBS.out HZ2.out HT.out).mono ?_); rintro e3 w3 ⟨rfl, v3, hO, hat, hk⟩; have HO3 := am hO; have HAT3 := am (hat_trans HATc.out hat HK2.out.size); have HK3 := am (Wr.then_ HK2.out HATc.out hk); have HY3 := am (HY2.out.told hk hat); have HCC3 := am (HCC2.out.told hk hat); clear hO hat hk)
       | (go_at_call 62; (with_reducible refine (modp_over.callsV k1 _ _ xc _ _ y p c2 _ HCC3.out.reads.2.2 HCC3.out.reads.2.1 HY3.out.reads.2.2 HY3.out.reads.2.1 HC2.out).mono ?_); rintro e4 w4 ⟨v4, rfl, h0, hb⟩; have HC4 := am (VS.new h0 HO3.out); have HY4 := am (HY3.out.below hb); have HO4 := am (HO3.out.below hb); have HK4 := am (HK3.out.below hb); clear h0 hb))
     go_roundg k1
     case measure => have := HKK.out; omega
     case rel => exact ⟨c2, y, (wrap64 (xi + 1)), xo2, v3, (by first | rfl | (simp; done)), HN, ⟨by have := HKK.out; omega⟩, HO4, HC4, HY4, HAT3, HK4⟩
   rw [if_neg c7] at H
   have c7a : decide ((xw.length : Int) > 1) = false := decide_eq_false c7
   have c7b : decide (1 < (xw.length : Int)) = false := decide_eq_false c7
   have c7c : decide (1 < xw.length) = false := decide_eq_false (by omega)
   clear c7
   by_cases c9 : (xc.length : Int) > 1
   case neg =>
     rw [if_neg c9] at H
     have c9a : decide ((xc.length : Int) > 1) = false := decide_eq_false c9
     have c9b : decide (1 < (xc.length : Int)) = false := decide_eq_false c9
     have c9c : decide (1 < xc.length) = false := decide_eq_false (by omega)
     clear c9
     obtain rfl := Option.some.inj H
     clear H
     go_wp2
     go_end0
     exact ⟨rfl, vc, HOc.out, HATc.out, HKc.out⟩
   rw [if_pos c9] at H
   have c9a : decide ((xc.length : Int) > 1) = true := decide_eq_true c9
   have c9b : decide (1 < (xc.length : Int)) = true := decide_eq_true c9
   have c9c : decide (1 < xc.length) = true := decide_eq_true (by omega)
   clear c9
   obtain ⟨rt, hrt, H⟩ := Option.bind_eq_some_iff.1 H
   have HRT := am hrt
   have HP := am H
   clear hrt H
   go_wp2
   generalize hwq : wr = wq at HCC HWC HOc HKc ⊢
   clear hwq
   go_loopg [13, 14] k1 (fun kq v13 v14 w' => ∃ (xr : List Int) (xj : Int), v14 = .int .i64 xj ∧ Aside0 (modp_parts.root kq xc p xr xj = some rt) ∧ Aside0 (kq ≤ k1) ∧ Aside0 (Kd.R (Kd.int .u32) 23 w' wq.heap.size (fun k_ => wq.heap.size ≤ k_) v13 xr) ∧ Aside0 (Below wq.heap.size wq w'))
   case atStart => exact ⟨[], 0, rfl, HRT, ⟨Nat.le_refl _⟩, ⟨Kd.R_nil _ _ _ _ _⟩, ⟨Below.refl _ _⟩⟩
   obtain ⟨xr, xj, rfl, HA2, HKK2, HR, HB⟩ := hrel
   rcases gk with _ | k2
   · exact absurd HA2.out (by simp [modp_parts.root])
   have H := HA2.out
   clear HA2
   simp only [modp_parts.root] at H
   by_cases d1 : xj < (xc.length : Int)
   case neg =>
     rw [if_neg d1] at H
     have d1b : decide (xj < (xc.length : Int)) = false := decide_eq_false d1
     clear d1
     obtain rfl := Option.some.inj H
     clear H
     have HVr := am (VS.new (Kd.R_V (base' := wq.heap.size) HR.out) HOc.out)
     obtain ⟨Ar_, cr_, er_⟩ := Kd.R_slice HR.out
     subst er_
     go_wp2_with (go_at_call 37; (with_reducible refine (IH.out k1 (by have := HKK.out; have := HKN.out; omega) _ _ xr p (wrap64 (often * wrap64 p)) B3 B6 B7 base vc xo r _ (HOc.out.below HB.out) HBS.out HVr.out HP.out).mono ?_); intro e5 w5 ht5; have HT5 := am (Told.step (HKc.out.below HB.out) HATc.out ht5); obtain ⟨rfl, _⟩ := ht5)
     go_end0
     exact HT5.out
   rw [if_pos d1] at H
   by_cases d2 : 0 ≤ xj
   case neg =>
     rw [if_neg d2] at H
     cases H
   rw [if_pos d2] at H
   by_cases d3 : xr.length < 35184372088832
   case neg =>
     rw [if_neg d3] at H
     cases H
   rw [if_pos d3] at H
   have LM := am d3
   have H2 := am H
   clear d3 H
   obtain ⟨adc, ec, hxc⟩ := Kd.at_int (HCC.out.below HB.out).reads.2.2 xj d2 d1
   cases ec
   have d1b : decide (xj < (xc.length : Int)) = true := decide_eq_true d1
   have d2b : decide (0 ≤ xj) = true := decide_eq_true d2
   have d1c := eq_true d1
   have d2c := eq_true d2
   clear d1 d2
   obtain ⟨Ar_, cr_, er_⟩ := Kd.R_slice HR.out
   subst er_
   go_wp2_with (first | ((with_reducible refine gate_builtin (b := .append) (xs := #[.tmp 63, .tmp 68]) rfl ?_); at_builtin; refine Kd.R_append (Kd.int .u32) (w0 := wq) wq.heap.size rfl (.tmp 63) (.tmp 68) 27 23 (.int .u32 0) 4 rfl Tryz.underlying27 info23 rfl (by decide) (by omega) (.slice Ar_ xr.length cr_) xr (rd xc xj) [.int .u32 (rd xc xj)] (fun k_ => (wq.heap.size ≤ k_)) (fun _ => False) rfl rfl rfl (fun _ hk => hk.elim) (fun k_ hk => Nat.le_trans (below_size HB.out) hk) HR.out HB.out (below_size HB.out) (by have := LM.out; omega) ?_; intro v2 w2 ho hb hg hat; have NR := am ho; have NB := am hb; clear ho hb hg hat))
   go_roundg k2
   case measure => have := HKK2.out; omega
   case rel => exact ⟨xr ++ [rd xc xj], (wrap64 (xj + wrap64 p)), (by first | rfl | (simp; done)), H2, ⟨by have := HKK2.out; omega⟩, NR, NB⟩
end Go.Proofs.YtjbcnppbcomaiaaGreatDoor.Q
