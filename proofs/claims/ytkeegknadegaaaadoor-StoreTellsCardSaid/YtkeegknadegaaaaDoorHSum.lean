/-
  store.Sum, by hand: the sum of the bytes that a row reads as.
-/
import Derived.Test.YtkeegknadegaaaaDoorQ0
import Derived.Test.YtkeegknadegaaaaDoorHTab
namespace Go.Proofs.YtkeegknadegaaaaDoor.Q
open Go.RowKit Go.Proofs.YtkeegknadegaaaaDoor.S Go.Proofs.YtkeegknadegaaaaDoorW.PrintWords Go.Proofs.YtkeegknadegaaaaDoorW.PrintLast Go.Proofs.YtkeegknadegaaaaDoorW.PrintMore
set_option linter.unusedVariables false
set_option linter.unusedSimpArgs false

/-- Are they all bytes? -/
def bytesB (l : List Int) : Bool := l.all fun x => decide (0 ≤ x) && decide (x < 256)
theorem bytesB_get {l : List Int} (h : bytesB l = true) (k : Nat) (hk : k < l.length) : ∃ x : Nat, x < 256 ∧ rd l (k : Int) = x ∧ l[k] = (x : Int) := by
  have := List.all_eq_true.1 h l[k] (List.getElem_mem hk)
  simp only [Bool.and_eq_true, decide_eq_true_eq] at this
  refine ⟨l[k].toNat, by omega, ?_, by omega⟩
  unfold rd
  rw [List.getD_eq_getElem?_getD, show ((k : Int)).toNat = k by omega, List.getElem?_eq_getElem hk]
  simp; omega
theorem bytesB_iff {l : List Int} : bytesB l = true ↔ ∀ x ∈ l, 0 ≤ x ∧ x < 256 := by simp [bytesB]

def store_Sum.f (l0 : List Int) : Option Int := if bytesB l0 = true then some (crc l0) else none

set_option maxHeartbeats 2000000 in
set_option maxRecDepth 100000 in
theorem store_Sum.calls (A0 : Option Addr) (c0 : Nat) (l0 : List Int) (r : Int) (w : World) (hr0 : Kd.C (Kd.int .u8) w A0 l0.length l0) (hc0 : l0.length ≤ c0) (h : store_Sum.f l0 = some r) :
    Calls Tryd.prog 17 #[.slice A0 l0.length c0] w fun e w' => e = .returned (.int .u32 r) ∧ Below w.heap.size w w' := by
  have hmx : l0.length ≤ 9223372036854775807 := hr0.2.1
  unfold store_Sum.f at h
  by_cases hb : bytesB l0 = true
  · rw [if_pos hb] at h
    obtain rfl := Option.some.inj h
    clear h
    have HR0 := Aside0.mk hr0
    have HB0 := Aside0.mk hb
    clear hr0 hb hc0
    have hz := zeroValue66
    have hne := zs66_ne
    have hsz := zs66_size
    go_enter Tryd.func17, Tryd.ntmps17
    go_wp2_with (first | (go_at_call 30; refine (table_calls _).mono ?_; rintro e w1 ⟨rfl, hbel⟩; have HBL := Aside0.mk hbel; clear hbel) | (refine wpList_store_row rfl 66 (.tmp 3) (.tmp 7) rfl w1.heap.size (tabArr 256) rfl rfl 66 zs66 (heap_alloc_new _ _) (by rw [tabArr_size]; exact info66) (by rw [tabArr_size, zs66_size]) tabArr_all ?_))
    clear hz hne hsz
    have hrow := setRow_heap (w1.alloc (.cells zs66 66)) w1.heap.size zs66 (tabArr 256) 66 (0, 0) (heap_alloc_new _ _)
    have hb2 : Below w.heap.size w ((w1.alloc (.cells zs66 66)).setRow w1.heap.size (tabArr 256)) := below_setRow (HBL.out.alloc HBL.out.size _) HBL.out.size _
    obtain ⟨w2, hw2⟩ : ∃ w2, w2 = ((w1.alloc (.cells zs66 66)).setRow w1.heap.size (tabArr 256)) := ⟨_, rfl⟩
    rw [← hw2] at hrow hb2 ⊢
    have HROW := Aside0.mk hrow
    have HB2 := Aside0.mk hb2
    clear hw2 hrow hb2 HBL
    go_loop [4, 10] (fun c i => ∃ k : Nat, k ≤ l0.length ∧ i = .int .i64 k ∧ c = .int .u32 ((runB (l0.take k) (4294967295#32)).toNat : Int)) (fun _ i => l0.length - (intOf i).toNat)
    case atStart => exact ⟨0, by omega, rfl, rfl⟩
    case round =>
      obtain ⟨k, hk, rfl, rfl⟩ := hrel
      by_cases hlt : k < l0.length
      · obtain ⟨x, hx, hrd, hget⟩ := bytesB_get HB0.out k hlt
        obtain ⟨c, hcc⟩ : ∃ c, c = runB (l0.take k) (4294967295#32) := ⟨_, rfl⟩
        have hnext : ((runB (l0.take (k + 1)) (4294967295#32)).toNat : Int) = ((byteB c x).toNat : Int) := by
          rw [List.take_succ_eq_append_getElem hlt, runB_snoc, hcc, hget]; rfl
        rw [← hcc]
        have HN := Aside0.mk hnext
        clear hcc hnext hget
        obtain ⟨ad, e1, hxc⟩ := Kd.at_int (Kd.C_below HR0.out HB2.out) (k : Int) (by omega) (by omega)
        cases e1
        rw [hrd] at hxc
        have hxc' : w2.cell? (ad.add k) = some (.int .u8 (x : Int)) := by simpa using hxc
        clear hxc hrd
        have hc8 : w2.cell? ⟨w1.heap.size, (c.toNat % 256) ^^^ x, none⟩ = some (.int .u32 ((tabB ((c.toNat % 256) ^^^ x)).toNat : Int)) := (cell_of_row _ _ _ _ _ _ HROW.out).trans (tabArr_get _ (byte_lt c x hx))
        have hi8 : bits .xor .u8 ((c.toNat : Int) % 256) (x : Int) = (((c.toNat % 256) ^^^ x : Nat) : Int) := byte_int c x hx
        have hj8 : (c.toNat % 256) ^^^ x < 256 := byte_lt c x hx
        have hi0 := c.isLt
        go_wp2
        go_round
        case rel => exact ⟨k + 1, by omega, by go_num, by rw [HN.out, ← shr8, xor_u32]; rfl⟩
        case measure => simp [intOf]; omega
      · obtain rfl : k = l0.length := by omega
        have hi0 := (runB (l0.take l0.length) (4294967295#32)).isLt
        have hfin : bits .xor .u32 IntKind.u32.max ((runB l0 (4294967295#32)).toNat : Int) = crc l0 := by
          have h := xor_u32 4294967295#32 (runB l0 4294967295#32)
          rw [BitVec.xor_comm] at h
          exact h
        have HFN := Aside0.mk hfin
        clear hfin
        go_wp2
        go_ret
        exact ⟨congrArg (fun z : Int => Ending.returned (.int .u32 z)) HFN.out, HB2.out⟩
  · rw [if_neg hb] at h
    cases h
end Go.Proofs.YtkeegknadegaaaaDoor.Q
