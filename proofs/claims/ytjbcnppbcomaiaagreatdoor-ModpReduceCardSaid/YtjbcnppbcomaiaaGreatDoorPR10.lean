/-
  ModpReduce: what is made of polynomials with whole coefficients, and then taken modulo a prime, is made alike of what they are modulo it (the row, the walk and the plain words), part 10 of 13 (packed by pack.py from texts of this session).
-/
import Derived.Test.YtjbcnppbcomaiaaGreatDoorPR1
import Derived.Test.YtjbcnppbcomaiaaGreatDoorPR3
import Derived.Test.YtjbcnppbcomaiaaGreatDoorPR4
import Derived.Test.YtjbcnppbcomaiaaGreatDoorPR5
import Derived.Test.YtjbcnppbcomaiaaGreatDoorPR6
import Derived.Test.YtjbcnppbcomaiaaGreatDoorRows
import Derived.ChangeSame
import Derived.ChangeVars
import Derived.JoinedOf
import Derived.RowKitTokens
import Derived.LaidLaws
import Derived.LaidHandle
import Derived.LaidMore
import Derived.Stop.Joined
set_option maxRecDepth 100000
set_option maxHeartbeats 8000000
set_option linter.unusedVariables false
namespace Go.Proofs.YtjbcnppbcomaiaaGreatDoor
open Go Go.ChangeShapes Go.WideShapes Go.RowKit
theorem wy0 : Tryz.prog.globalNamed "ziggurat/modp.ways" = some 0 := by kernel_rfl
theorem wyt : (Tryz.prog.globals[0]?).map (·.type) = some 66 := by kernel_rfl
theorem und70 : Tryz.prog.underlying 66 = some (.slice 65) := by kernel_rfl
theorem cel69 : Tryz.prog.cellsOf 65 = 2 := by kernel_rfl
theorem cel53 : Tryz.prog.cellsOf 47 = 1 := by kernel_rfl
theorem cel67 : Tryz.prog.cellsOf 63 = 1 := by kernel_rfl
def isFn : Option TypeDesc → Bool
 | some (.func ..) => true
 | _ => false
theorem of_isFn {o : Option TypeDesc} (h : isFn o = true) : ∃ ps rs va, o = some (.func ps rs va) := by
 unfold isFn at h
 split at h
 · exact ⟨_, _, _, rfl⟩
 · cases h
theorem fn53 : isFn (Tryz.prog.underlying 47) = true := by kernel_rfl
theorem fn67 : isFn (Tryz.prog.underlying 63) = true := by kernel_rfl
theorem one124 : ((List.range Tryz.prog.funcs.size).filter fun f => (Tryz.prog.funcs[f]?).any (·.name.toUTF8.data.toList == [122, 105, 103, 103, 117, 114, 97, 116, 47, 109, 111, 100, 112, 46, 119, 97, 121, 115, 36, 49])) = [128] := by kernel_rfl
theorem one125 : ((List.range Tryz.prog.funcs.size).filter fun f => (Tryz.prog.funcs[f]?).any (·.name.toUTF8.data.toList == [122, 105, 103, 103, 117, 114, 97, 116, 47, 109, 111, 100, 112, 46, 109, 97, 116, 114, 105, 120])) = [129] := by kernel_rfl
abbrev laidList {H : Type} : List (String × DataW H) := [("ziggurat/modp.ways", Rows.laid_ziggurat_modp_ways)]
theorem gw_of_laid {W : World} (h : laidMetH Tryz.prog laidList W) : Q.GW W := by
 obtain ⟨g, t, cs, fuel, p, e1, e2, e3, e4⟩ := laidMetH.funcs h (List.mem_singleton.2 rfl)
 obtain rfl := Option.some.inj (wy0.symm.trans e1)
 obtain rfl := Option.some.inj (wyt.symm.trans e2)
 have hcell := World.var?_cell wy0 e3 0
 rcases DataW.trod_slice und70 e4 with ⟨_, hx⟩ | ⟨a, len, cap, elems, rest, n, _, hcs, hx, _, hl, _, hlen, hel, _⟩
 · simp [DataW.funcsOut] at hx
 · have hd : elems.map (·.1) = [.agg [.held [122, 105, 103, 103, 117, 114, 97, 116, 47, 109, 111, 100, 112, 46, 119, 97, 121, 115, 36, 49], .held [122, 105, 103, 103, 117, 114, 97, 116, 47, 109, 111, 100, 112, 46, 109, 97, 116, 114, 105, 120]], .agg [.held [122, 105, 103, 103, 117, 114, 97, 116, 47, 109, 111, 100, 112, 46, 119, 97, 121, 115, 36, 50], .held [122, 105, 103, 103, 117, 114, 97, 116, 47, 109, 111, 100, 112, 46, 100, 101, 103, 114, 101, 101, 115]]] := by
     have h1 := congrArg Prod.fst hx
     simp only at h1
     injection h1 with h1 h2
     exact h1.symm
   have h2 : elems.length = 2 := by simpa using congrArg List.length hd
   clear hx e4
   obtain ⟨y0, y1, rfl⟩ : ∃ y0 y1, elems = [y0, y1] := by
     match elems, h2 with
     | [y0, y1], _ => exact ⟨_, _, rfl⟩
   · simp only [List.map_cons, List.map_nil, List.cons.injEq, and_true] at hd
     obtain rfl : 2 = len := hlen
     have hE := hel 0 (by decide)
     rw [cel69, Nat.zero_mul] at hE
     simp only [List.getElem?_cons_zero, Option.bind_eq_some_iff] at hE
     obtain ⟨c1, hc1, hy⟩ := hE
     obtain ⟨ps, rs, va, u53⟩ := of_isFn fn53
     obtain ⟨ps', rs', va', u67⟩ := of_isFn fn67
     obtain ⟨z0, z1, n', hz, hzl, hz0, hz1⟩ := trod_struct2 Tryz.underlying65 hy
     have hh := hd.1
     rw [hz] at hh
     simp only [DataW.agg.injEq, List.cons.injEq, and_true] at hh
     have ca : W.cell? a = c1[0]? ∧ W.cell? (a.add 1) = c1[1]? ∧ c1.length = 2 ∧ a.spot = none := by
       have e0 : a.add 0 = a := by simp [Addr.add]
       unfold World.cells? at hc1
       split at hc1
       · simp only [List.range_succ, List.range_zero, List.nil_append, List.cons_append, List.mapM_cons, List.mapM_nil, e0] at hc1
         cases hq0 : W.cell? a with
         | none => simp [hq0] at hc1
         | some x0 =>
           cases hq1 : W.cell? (a.add 1) with
           | none => simp [hq0, hq1] at hc1
           | some x1 =>
             simp [hq0, hq1] at hc1
             subst hc1
             refine ⟨rfl, rfl, rfl, ?_⟩
             unfold World.cell? at hq0
             split at hq0
             · cases hs : a.spot with
               | none => rfl
               | some _ => simp [hs] at hq0
             · cases hq0
       · cases hc1
     obtain ⟨q0, q1, ql, qs⟩ := ca
     obtain ⟨x0, x1, rfl⟩ : ∃ x0 x1, c1 = [x0, x1] := by
       match c1, ql with
       | [x0, x1], _ => exact ⟨_, _, rfl⟩
     · have f0 : x0 = .func (.func 128) #[] #[] := func_of_trod (q := z0.2) u53 one124 (by have h_ := hz0; rw [cel53] at h_; rw [← hh.1]; exact h_)
       have f1 : x1 = .func (.func 129) #[] #[] := func_of_trod (q := z1.2) u67 one125 (by have h_ := hz1; rw [cel67] at h_; rw [← hh.2]; exact h_)
       subst f0; subst f1
       obtain ⟨b, o, sp⟩ := a
       cases qs
       refine ⟨b, o, cap, ?_, q0, q1⟩
       rw [hcell]
       have : cs = #[.slice (some ⟨b, o, none⟩) 2 cap] := Array.eq_one_of_toList hcs
       rw [this]; rfl
theorem door_met (os : Os) (args : Array Value) : laidMetH Tryz.prog laidList ((World.doorLaid Tryz.prog 600 os).forCall (fun _ _ => 0) ⟨#[], args, []⟩).memory :=
 laidMetH_of_parts3 (fuel := 9) (laidMet_nil _ _) (by kernel_rfl) (by kernel_rfl)
end Go.Proofs.YtjbcnppbcomaiaaGreatDoor
