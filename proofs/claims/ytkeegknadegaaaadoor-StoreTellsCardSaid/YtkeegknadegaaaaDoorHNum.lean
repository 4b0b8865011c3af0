/-
  store.number, by hand: the number of a row's first four bytes.
-/
import Derived.Test.YtkeegknadegaaaaDoorSApp
import Derived.Outline
namespace Go.Proofs.YtkeegknadegaaaaDoor.Q
open Go.RowKit Go.Proofs.YtkeegknadegaaaaDoor.S Go.Proofs.YtkeegknadegaaaaDoorW.PrintWords Go.Proofs.YtkeegknadegaaaaDoorW.PrintLast Go.Proofs.YtkeegknadegaaaaDoorW.PrintMore
set_option linter.unusedVariables false
set_option linter.unusedSimpArgs false

/-- What k rounds have made. -/
def numTop (l : List Int) : Nat → Int
  | 0 => 0
  | k + 1 => numTop l k * 256 + rd l (3 - (k : Int))
/-- The number of the first four bytes. -/
def num4 (l : List Int) : Int := numTop l 4
theorem num4_eq (l : List Int) : num4 l = rd l 0 + 256 * rd l 1 + 65536 * rd l 2 + 16777216 * rd l 3 := by
  have e : num4 l = (((0 * 256 + rd l 3) * 256 + rd l 2) * 256 + rd l 1) * 256 + rd l 0 := rfl
  rw [e]; omega
theorem numTop_range {l : List Int} (h : bytesB l = true) (hl : 4 ≤ l.length) : ∀ k, k ≤ 4 → 0 ≤ numTop l k ∧ numTop l k < 256 ^ k
  | 0, _ => by simp [numTop]
  | k + 1, hk => by
    obtain ⟨h1, h2⟩ := numTop_range h hl k (by omega)
    obtain ⟨x, hx, hr, _⟩ := bytesB_get h (3 - k) (by omega)
    have e : ((3 - k : Nat) : Int) = 3 - (k : Int) := by omega
    rw [e] at hr
    simp only [numTop, hr]
    have hp : (256 : Int) ^ (k + 1) = 256 ^ k * 256 := Int.pow_succ 256 k
    omega
theorem num4_range {l : List Int} (h : bytesB l = true) (hl : 4 ≤ l.length) : 0 ≤ num4 l ∧ num4 l < 4294967296 := by
  have := numTop_range h hl 4 (by omega)
  exact this
theorem or8 (n x : Int) (h0 : 0 ≤ n) (h1 : n < 4294967296) (x0 : 0 ≤ x) (x1 : x < 256) : bits .or .i64 (n * 256) x = n * 256 + x :=
  bits_join .i64 63 (by decide) (fun m a b => by rw [IntKind.wrap_i64]; omega) 8 (n * 256) x (by omega) (by omega) (by omega) x0 (by omega) (by omega)

set_option maxHeartbeats 2000000 in
set_option maxRecDepth 100000 in
theorem number_calls (A0 : Option Addr) (c0 : Nat) (l0 : List Int) (w : World) (hr0 : Kd.C (Kd.int .u8) w A0 l0.length l0) (hb : bytesB l0 = true) (hl : 4 ≤ l0.length) :
    Calls Tryd.prog 38 #[.slice A0 l0.length c0] w fun e w' => e = .returned (.int .i64 (num4 l0)) ∧ w = w' := by
  have hmx : l0.length ≤ 9223372036854775807 := hr0.2.1
  have HR0 := Aside0.mk hr0
  have HB := Aside0.mk hb
  have HL := Aside0.mk hl
  clear hr0 hb
  go_enter Tryd.func38, Tryd.ntmps38
  go_wp2
  go_loop [3, 4] (fun n i => ∃ k : Nat, k ≤ 4 ∧ i = .int .i64 (3 - (k : Int)) ∧ n = .int .i64 (numTop l0 k)) (fun _ i => (intOf i + 1).toNat)
  case atStart => exact ⟨0, by omega, rfl, rfl⟩
  case round =>
    obtain ⟨k, hk, rfl, rfl⟩ := hrel
    by_cases hlt : k < 4
    · obtain ⟨x, hx, hr, _⟩ := bytesB_get HB.out (3 - k) (by omega)
      have e3 : ((3 - k : Nat) : Int) = 3 - (k : Int) := by omega
      obtain ⟨h0, h1⟩ := numTop_range HB.out HL.out k (by omega)
      have hnx : numTop l0 (k + 1) = numTop l0 k * 256 + (x : Int) := by rw [← hr, e3]; rfl
      obtain ⟨m, hm⟩ : ∃ m, m = numTop l0 k := ⟨_, rfl⟩
      rw [← hm] at h0 h1 hnx ⊢
      have h2 : m < 16777216 := by
        have h9 : k = 0 ∨ k = 1 ∨ k = 2 ∨ k = 3 := by omega
        rcases h9 with e | e | e | e <;> rw [e] at h1 <;> omega
      have HN := Aside0.mk hnx
      have hor := or8 m x h0 (by omega) (by omega) (by omega)
      obtain ⟨ad, e1, hxc⟩ := Kd.at_int HR0.out ((3 - k : Nat) : Int) (by omega) (by omega)
      cases e1
      rw [hr] at hxc
      obtain ⟨j, hj⟩ : ∃ j : Nat, j = 3 - k := ⟨_, rfl⟩
      rw [e3] at hxc
      have h4 : (3 - (k : Int)).toNat = j := by omega
      have h5 : (0 : Int) ≤ 3 - (k : Int) := by omega
      have h6 : 3 - (k : Int) < (l0.length : Int) := by omega
      rw [h4] at hxc
      clear hr hnx hm e3 h1 hj
      go_wp2
      go_round
      case rel => exact ⟨k + 1, by omega, by go_num, by rw [HN.out]⟩
      case measure => simp [intOf]; omega
    · obtain rfl : k = 4 := by omega
      go_wp2
      go_ret
      exact ⟨rfl, rfl⟩
theorem number_is (A0 : Option Addr) (c0 : Nat) (l0 : List Int) (m : Int) (hm : num4 l0 = m) (w : World) (hr0 : Kd.C (Kd.int .u8) w A0 l0.length l0) (hb : bytesB l0 = true) (hl : 4 ≤ l0.length) :
    Calls Tryd.prog 38 #[.slice A0 l0.length c0] w fun e w' => e = .returned (.int .i64 m) ∧ w = w' := by
  rw [← hm]; exact number_calls A0 c0 l0 w hr0 hb hl
def store_number.f (l0 : List Int) : Option Int := if bytesB l0 = true ∧ 4 ≤ l0.length then some (num4 l0) else none
theorem store_number.calls (A0 : Option Addr) (c0 : Nat) (l0 : List Int) (r : Int) (w : World) (hr0 : Kd.C (Kd.int .u8) w A0 l0.length l0) (hc0 : l0.length ≤ c0) (h : store_number.f l0 = some r) :
    Calls Tryd.prog 38 #[.slice A0 l0.length c0] w fun e w' => e = .returned (.int .i64 r) ∧ Below w.heap.size w w' := by
  unfold store_number.f at h
  by_cases hb : bytesB l0 = true ∧ 4 ≤ l0.length
  · rw [if_pos hb] at h
    cases h
    refine (number_calls A0 c0 l0 w hr0 hb.1 hb.2).mono ?_
    rintro e w' ⟨rfl, rfl⟩
    exact ⟨rfl, Below.refl _ _⟩
  · rw [if_neg hb] at h; cases h
end Go.Proofs.YtkeegknadegaaaaDoor.Q
