/- Joined texts: ErrP, PrE, MapB, TrE, Tst, TrF. -/
import Derived.Test.YtkkpkcnlocmnhaaGreatDoorJd
import Derived.Test.YtkkpkcnlocmnhaaGreatDoorJj
import Derived.Test.YtkkpkcnlocmnhaaGreatDoorJc
import Derived.Test.YtkkpkcnlocmnhaaGreatDoorJb
import Derived.Test.YtkkpkcnlocmnhaaGreatDoorJh
import Derived.Test.YtkkpkcnlocmnhaaGreatDoorJi
import Derived.BigQuiet
import Derived.Deep.QuietTactic
import Derived.RowKitTokens
import Derived.Stop.BytesEq
import Derived.WideKeyRuns
import Derived.Laws.Rows
import Derived.Laws.Tables
import Derived.Deep.RegionHeld3
import Derived.Deep.RegionLaw
namespace Go.Vir
open Go Go.RowKit Go.Proofs Go.Extern.Stop Go.Stop Go.Extern

theorem pw_valueOfP (t : Addr) (w : World) : (ReflectliteValue.unpack (.iface 241 (.pointer (some t)))).run Tryz.prog w
    = .ok (.agg #[.pointer (some ⟨7, 241, none⟩), .pointer (some ⟨w.heap.size, 0, none⟩), .int .u64 150]) (w.alloc (.cells #[.pointer (some t)] 241)) := by kernel_rfl
theorem pw_typeP (a : Addr) (w : World) : (ReflectliteValue.methodAny (ReflectliteValue.valueError "reflectlite.Value.Type" 0) (fun t _ _ _ => ReflectliteType.toType t) #[.agg #[.pointer (some ⟨7, 241, none⟩), .pointer (some a), .int .u64 150]]).run Tryz.prog w
    = .ok (.iface 159 (.agg #[.pointer (some ⟨7, 241, none⟩)])) w := by kernel_rfl
theorem pw_kindP (w : World) : ((ReflectliteType.abiMethod fun t => (fun a : Nat => Value.int IntKind.u8 (a : Int)) <$> Rtype.kind t) #[.pointer (some ⟨7, 241, none⟩)]).run Tryz.prog w = .ok (.int .u8 22) w := by kernel_rfl
theorem pw_kindS (w : World) : ((ReflectliteType.abiMethod fun t => (fun a : Nat => Value.int IntKind.u8 (a : Int)) <$> Rtype.kind t) #[.pointer (some ⟨7, 239, none⟩)]).run Tryz.prog w = .ok (.int .u8 25) w := by kernel_rfl
theorem pw_partsP (a : Addr) (w : World) : (ReflectliteValue.parts (.agg #[.pointer (some ⟨7, 241, none⟩), .pointer (some a), .int .u64 150])).run Tryz.prog w = .ok (some (241, a, 150)) w := by kernel_rfl
theorem pw_isNilP (a p : Addr) (W : World) (ha : W.cell? a = some (.pointer (some p))) :
    (ReflectliteValue.method (ReflectliteValue.valueError "reflectlite.Value.IsNil" 0) ReflectliteValue.isNil #[.agg #[.pointer (some ⟨7, 241, none⟩), .pointer (some a), .int .u64 150]]).run Tryz.prog W = .ok (.bool false) W := by
  rw [rlm]
  simp only [Sem.run_bind, pw_partsP, Result.andThen]
  simp [ReflectliteValue.isNil, loadVar, isAgg, underlying, Tryz.underlying241, ha, Result.andThen]
theorem pw_elemP (w : World) : (ReflectliteType.method ReflectliteType.elem #[.agg #[.pointer (some ⟨7, 241, none⟩)]]).run Tryz.prog w = .ok (.iface 159 (.agg #[.pointer (some ⟨7, 239, none⟩)])) w := by kernel_rfl
theorem pw_implS (w : World) : (ReflectliteType.relation "Implements" ReflectliteType.implements_ #[.agg #[.pointer (some ⟨7, 239, none⟩)], .iface 159 (.agg #[.pointer (some ⟨7, 50, none⟩)])]).run Tryz.prog w = .ok (.bool true) w := by kernel_rfl
theorem pw_typeOfS (v : Value) (w : World) : (ReflectliteType.typeOf #[.iface 239 v]).run Tryz.prog w = .ok (.iface 159 (.agg #[.pointer (some ⟨7, 239, none⟩)])) w := by kernel_rfl
theorem pw_assS (w : World) : (ReflectliteType.relation "AssignableTo" ReflectliteType.assignableTo #[.agg #[.pointer (some ⟨7, 239, none⟩)], .iface 159 (.agg #[.pointer (some ⟨7, 239, none⟩)])]).run Tryz.prog w = .ok (.bool true) w := by kernel_rfl
theorem pw_valueOfS (c0 c1 c2 : Value) (w : World) : (ReflectliteValue.unpack (.iface 239 (.agg #[c0, c1, c2]))).run Tryz.prog w
    = .ok (.agg #[.pointer (some ⟨7, 239, none⟩), .pointer (some ⟨w.heap.size, 0, none⟩), .int .u64 153]) (w.alloc (.cells #[c0, c1, c2] 239)) := by kernel_rfl
theorem pw_elemOfP (w : World) : (Rtype.elem? 241).run Tryz.prog w = .ok (some 239) w := by kernel_rfl
theorem pw_mkS (p : Addr) (w : World) : (ReflectliteValue.mk 239 p ReflectliteValue.flagAddr).run Tryz.prog w = .ok (.agg #[.pointer (some ⟨7, 239, none⟩), .pointer (some p), .int .u64 409]) w := by kernel_rfl
theorem pw_elemVP (a p : Addr) (W : World) (ha : W.cell? a = some (.pointer (some p))) :
    (ReflectliteValue.method (ReflectliteValue.valueError "reflectlite.Value.Elem" 0) ReflectliteValue.elem #[.agg #[.pointer (some ⟨7, 241, none⟩), .pointer (some a), .int .u64 150]]).run Tryz.prog W
      = .ok (.agg #[.pointer (some ⟨7, 239, none⟩), .pointer (some p), .int .u64 409]) W := by
  rw [rlm]
  simp only [Sem.run_bind, pw_partsP, Result.andThen]
  simp [ReflectliteValue.elem, loadVar, isAgg, underlying, Tryz.underlying241, ha, Result.andThen, pw_elemOfP, pw_mkS]
theorem pw_partsA (a : Addr) (w : World) : (ReflectliteValue.parts (.agg #[.pointer (some ⟨7, 239, none⟩), .pointer (some a), .int .u64 409])).run Tryz.prog w = .ok (some (239, a, 409)) w := by kernel_rfl
theorem pw_partsS (a : Addr) (w : World) : (ReflectliteValue.parts (.agg #[.pointer (some ⟨7, 239, none⟩), .pointer (some a), .int .u64 153])).run Tryz.prog w = .ok (some (239, a, 153)) w := by kernel_rfl
theorem pw_directS (w : World) : (Rtype.directlyAssignable 239 239).run Tryz.prog w = .ok true w := by kernel_rfl
theorem pw_sizeS (w : World) : (sizeOf 239).run Tryz.prog w = .ok 3 w := by kernel_rfl
theorem pw_aggS (w : World) : (isAgg 239).run Tryz.prog w = .ok true w := by kernel_rfl
theorem pw_setS (tb bb : Nat) (c0 c1 c2 o0 o1 o2 : Value) (W : World) (h0 : c0.oneCell' = true) (h1 : c1.oneCell' = true) (h2 : c2.oneCell' = true)
    (hb0 : W.cell? ⟨bb, 0, none⟩ = some c0) (hb1 : W.cell? ⟨bb, 1, none⟩ = some c1) (hb2 : W.cell? ⟨bb, 2, none⟩ = some c2)
    (ht0 : W.cell? ⟨tb, 0, none⟩ = some o0) (ht1 : W.cell? ⟨tb, 1, none⟩ = some o1) (ht2 : W.cell? ⟨tb, 2, none⟩ = some o2) (hf0 : W.frozen? ⟨tb, 0, none⟩ = false) (hf1 : W.frozen? ⟨tb, 1, none⟩ = false) (hf2 : W.frozen? ⟨tb, 2, none⟩ = false) :
    (ReflectliteValue.set #[.agg #[.pointer (some ⟨7, 239, none⟩), .pointer (some ⟨tb, 0, none⟩), .int .u64 409], .agg #[.pointer (some ⟨7, 239, none⟩), .pointer (some ⟨bb, 0, none⟩), .int .u64 153]]).run Tryz.prog W
      = .ok (.tuple #[]) (((W.setCell ⟨tb, 0, none⟩ c0).setCell ⟨tb, 1, none⟩ c1).setCell ⟨tb, 2, none⟩ c2) := by
  have e1 : (loadVar 239 ⟨bb, 0, none⟩).run Tryz.prog W = .ok (.agg #[c0, c1, c2]) W := by
    unfold loadVar
    simp only [Sem.run_bind, pw_aggS, pw_sizeS, Result.andThen, if_true]
    simp [Result.andThen, loadCells, loadCellsFrom, Addr.add, hb0, hb1, hb2]
  have hv : (Value.agg #[c0, c1, c2]).cells = #[c0, c1, c2] := rfl
  have g1 : (W.setCell ⟨tb, 0, none⟩ c0).cell? ⟨tb, 1, none⟩ = some o1 := by
    rw [World.cell?_setCell_other _ _ _ _ (by simp)]; exact ht1
  have k1 : (W.setCell ⟨tb, 0, none⟩ c0).frozen? ⟨tb, 1, none⟩ = false := by simp [hf1]
  have g2 : ((W.setCell ⟨tb, 0, none⟩ c0).setCell ⟨tb, 1, none⟩ c1).cell? ⟨tb, 2, none⟩ = some o2 := by
    rw [World.cell?_setCell_other _ _ _ _ (by simp), World.cell?_setCell_other _ _ _ _ (by simp)]; exact ht2
  have k2 : ((W.setCell ⟨tb, 0, none⟩ c0).setCell ⟨tb, 1, none⟩ c1).frozen? ⟨tb, 2, none⟩ = false := by simp [hf2]
  have e2 : (storeVar 239 ⟨tb, 0, none⟩ (.agg #[c0, c1, c2])).run Tryz.prog W = .ok () (((W.setCell ⟨tb, 0, none⟩ c0).setCell ⟨tb, 1, none⟩ c1).setCell ⟨tb, 2, none⟩ c2) := by
    unfold storeVar
    simp only [hv]
    simp only [Sem.run_bind, pw_sizeS, Result.andThen]
    simp only [storeCells, Addr.add, Sem.run_bind, List.size_toArray, List.length_cons, List.length_nil, ne_eq, not_true_eq_false, if_false, Sem.run_pure, Result.andThen]
    rw [run_store Tryz.prog W _ _ _ h0]
    simp only [↓reduceIte, Nat.one_ne_zero, ht0, hf0, Bool.false_eq_true, Nat.zero_add]
    rw [run_store Tryz.prog _ _ _ _ h1]
    simp only [↓reduceIte, Nat.reduceEqDiff, g1, k1, Bool.false_eq_true]
    rw [run_store Tryz.prog _ _ _ _ h2]
    simp [g2, k2]
  rw [rls]
  simp only [Sem.run_bind, pw_partsA, pw_partsS, Result.andThen]
  simp [ReflectliteValue.flagAddr, e1, e2, Result.andThen, pw_directS]
set_option maxHeartbeats 4000000 in
theorem prop_as_hit (c0 c1 c2 : Value) (tb : Nat) (o0 o1 o2 : Value) (w : World) (h0 : c0.oneCell' = true) (h1 : c1.oneCell' = true) (h2 : c2.oneCell' = true) (htl : tb < w.heap.size)
    (ht0 : w.cell? ⟨tb, 0, none⟩ = some o0) (ht1 : w.cell? ⟨tb, 1, none⟩ = some o1) (ht2 : w.cell? ⟨tb, 2, none⟩ = some o2) (hf0 : w.frozen? ⟨tb, 0, none⟩ = false) (hf1 : w.frozen? ⟨tb, 1, none⟩ = false) (hf2 : w.frozen? ⟨tb, 2, none⟩ = false) (vb : Nat) (hvb : vb < w.heap.size) (hv : w.cell? ⟨vb, 0, none⟩ = some (.pointer (some ⟨tb, 0, none⟩))) :
    Calls Tryz.prog 87 #[.iface 239 (.agg #[c0, c1, c2]), .iface 241 (.pointer (some ⟨tb, 0, none⟩)), .agg #[.pointer (some ⟨7, 241, none⟩), .pointer (some ⟨vb, 0, none⟩), .int .u64 150], .iface 159 (.agg #[.pointer (some ⟨7, 239, none⟩)])] w fun ev w' =>
      ev = .returned (.bool true) ∧ w'.cell? ⟨tb, 0, none⟩ = some c0 ∧ w'.cell? ⟨tb, 1, none⟩ = some c1 ∧ w'.cell? ⟨tb, 2, none⟩ = some c2 ∧ Below tb w w' := by
  have hTO := @run_callFunc_extern Tryz.prog 110 _ ReflectliteType.typeOf Tryz.func110 (by kernel_rfl) (by kernel_rfl) (by kernel_rfl) (by kernel_rfl)
  have hAT := @run_callFunc_extern Tryz.prog 277 _ (ReflectliteType.relation "AssignableTo" ReflectliteType.assignableTo) Tryz.func277 (by kernel_rfl) (by kernel_rfl) (by kernel_rfl) (by kernel_rfl)
  have hEl := @run_callFunc_extern Tryz.prog 111 _ (ReflectliteValue.method (ReflectliteValue.valueError "reflectlite.Value.Elem" 0) ReflectliteValue.elem) Tryz.func111 (by kernel_rfl) (by kernel_rfl) (by kernel_rfl) (by kernel_rfl)
  have hSe := @run_callFunc_extern Tryz.prog 112 _ ReflectliteValue.set Tryz.func112 (by kernel_rfl) (by kernel_rfl) (by kernel_rfl) (by kernel_rfl)
  have hVO := @run_callFunc_extern Tryz.prog 84 _ (fun args => ReflectliteValue.unpack (args.getD 0 (.tuple #[]))) Tryz.func84 (by kernel_rfl) (by kernel_rfl) (by kernel_rfl) (by kernel_rfl)
  have tO := pw_typeOfS
  have mA := cw_methodAssignableTo
  have aS := pw_assS
  have vS := pw_valueOfS
  have el : ∀ o, (ReflectliteValue.method (ReflectliteValue.valueError "reflectlite.Value.Elem" 0) ReflectliteValue.elem #[.agg #[.pointer (some ⟨7, 241, none⟩), .pointer (some ⟨vb, 0, none⟩), .int .u64 150]]).run Tryz.prog (w.alloc o)
      = .ok (.agg #[.pointer (some ⟨7, 239, none⟩), .pointer (some ⟨tb, 0, none⟩), .int .u64 409]) (w.alloc o) :=
    fun o => pw_elemVP _ _ _ ((World.cell?_alloc_lt _ _ _ hvb).trans hv)
  have st : ∀ o, (ReflectliteValue.set #[.agg #[.pointer (some ⟨7, 239, none⟩), .pointer (some ⟨tb, 0, none⟩), .int .u64 409], .agg #[.pointer (some ⟨7, 239, none⟩), .pointer (some ⟨w.heap.size + 1, 0, none⟩), .int .u64 153]]).run Tryz.prog ((w.alloc o).alloc (.cells #[c0, c1, c2] 239))
      = .ok (.tuple #[]) (((((w.alloc o).alloc (.cells #[c0, c1, c2] 239)).setCell ⟨tb, 0, none⟩ c0).setCell ⟨tb, 1, none⟩ c1).setCell ⟨tb, 2, none⟩ c2) := fun o => by
    have hb : ((w.alloc o).alloc (.cells #[c0, c1, c2] 239)).heap[w.heap.size + 1]? = some (.cells #[c0, c1, c2] 239 (0, 0)) := heap_new (by simp)
    exact pw_setS tb (w.heap.size + 1) c0 c1 c2 o0 o1 o2 _ h0 h1 h2 (cell_blk hb 0) (cell_blk hb 1) (cell_blk hb 2)
      (by rw [World.cell?_alloc_lt _ _ _ (by simp; omega), World.cell?_alloc_lt _ _ _ htl]; exact ht0) (by rw [World.cell?_alloc_lt _ _ _ (by simp; omega), World.cell?_alloc_lt _ _ _ htl]; exact ht1) (by rw [World.cell?_alloc_lt _ _ _ (by simp; omega), World.cell?_alloc_lt _ _ _ htl]; exact ht2)
      (by rw [World.frozen?_alloc_old _ _ _ (by simp; omega), World.frozen?_alloc_old _ _ _ (Nat.ne_of_lt htl)]; exact hf0) (by rw [World.frozen?_alloc_old _ _ _ (by simp; omega), World.frozen?_alloc_old _ _ _ (Nat.ne_of_lt htl)]; exact hf1) (by rw [World.frozen?_alloc_old _ _ _ (by simp; omega), World.frozen?_alloc_old _ _ _ (Nat.ne_of_lt htl)]; exact hf2)
  go_enter Tryz.func87, Tryz.ntmps87
  go_wp2
  refine wp_loop_rounds 1 ?_
  rw [rounds_succ]
  go_wp2
  go_ret
  refine ⟨rfl, ?_, ?_, ?_, ?_⟩
  · rw [World.cell?_alloc_lt _ _ _ (by simp; omega), World.cell?_alloc_lt _ _ _ (by simp; omega), World.cell?_setCell_other _ _ _ _ (by simp), World.cell?_setCell_other _ _ _ _ (by simp), World.cell?_setCell_same' _ _ _ (by simp [ht0])]
  · rw [World.cell?_alloc_lt _ _ _ (by simp; omega), World.cell?_alloc_lt _ _ _ (by simp; omega), World.cell?_setCell_other _ _ _ _ (by simp), World.cell?_setCell_same' _ _ _ (by rw [World.cell?_setCell_other _ _ _ _ (by simp)]; simp [ht1])]
  · rw [World.cell?_alloc_lt _ _ _ (by simp; omega), World.cell?_alloc_lt _ _ _ (by simp; omega), World.cell?_setCell_same' _ _ _ (by rw [World.cell?_setCell_other _ _ _ _ (by simp), World.cell?_setCell_other _ _ _ _ (by simp)]; simp [ht2])]
  · go_grown

set_option maxHeartbeats 4000000 in
theorem prop_as (c0 c1 c2 : Value) (tb : Nat) (o0 o1 o2 : Value) (w : World) (h0 : c0.oneCell' = true) (h1 : c1.oneCell' = true) (h2 : c2.oneCell' = true) (htl : tb < w.heap.size)
    (hg : w.cell? ⟨0, 0, none⟩ = some (.iface 159 (.agg #[.pointer (some ⟨7, 50, none⟩)]))) (hgl : 0 < w.heap.size)
    (ht0 : w.cell? ⟨tb, 0, none⟩ = some o0) (ht1 : w.cell? ⟨tb, 1, none⟩ = some o1) (ht2 : w.cell? ⟨tb, 2, none⟩ = some o2) (hf0 : w.frozen? ⟨tb, 0, none⟩ = false) (hf1 : w.frozen? ⟨tb, 1, none⟩ = false) (hf2 : w.frozen? ⟨tb, 2, none⟩ = false) :
    Calls Tryz.prog 51 #[.iface 239 (.agg #[c0, c1, c2]), .iface 241 (.pointer (some ⟨tb, 0, none⟩))] w fun ev w' =>
      ev = .returned (.bool true) ∧ w'.cell? ⟨tb, 0, none⟩ = some c0 ∧ w'.cell? ⟨tb, 1, none⟩ = some c1 ∧ w'.cell? ⟨tb, 2, none⟩ = some c2 ∧ Below tb w w' := by
  have h6 := @run_callFunc_extern Tryz.prog 84 _ (fun args => ReflectliteValue.unpack (args.getD 0 (.tuple #[]))) Tryz.func84 (by kernel_rfl) (by kernel_rfl) (by kernel_rfl) (by kernel_rfl)
  have h7 := @run_callFunc_extern Tryz.prog 85 _ (ReflectliteValue.methodAny (ReflectliteValue.valueError "reflectlite.Value.Type" 0) (fun t _ _ _ => ReflectliteType.toType t)) Tryz.func85 (by kernel_rfl) (by kernel_rfl) (by kernel_rfl) (by kernel_rfl)
  have h8 := @run_callFunc_extern Tryz.prog 86 _ (ReflectliteValue.method (ReflectliteValue.valueError "reflectlite.Value.IsNil" 0) ReflectliteValue.isNil) Tryz.func86 (by kernel_rfl) (by kernel_rfl) (by kernel_rfl) (by kernel_rfl)
  have h27 := @run_callFunc_extern Tryz.prog 269 _ (ReflectliteType.abiMethod fun t => do pure (.int .u8 (← Rtype.kind t))) Tryz.func269 (by kernel_rfl) (by kernel_rfl) (by kernel_rfl) (by kernel_rfl)
  have h37 := @run_callFunc_extern Tryz.prog 279 _ (ReflectliteType.method ReflectliteType.elem) Tryz.func279 (by kernel_rfl) (by kernel_rfl) (by kernel_rfl) (by kernel_rfl)
  have h38 := @run_callFunc_extern Tryz.prog 280 _ (ReflectliteType.relation "Implements" ReflectliteType.implements_) Tryz.func280 (by kernel_rfl) (by kernel_rfl) (by kernel_rfl) (by kernel_rfl)
  have f6 := pw_valueOfP
  have f7 := pw_typeP
  have mK := cw_methodKind
  have mE := cw_methodElem
  have mI := cw_methodImplements
  have kP := pw_kindP
  have kS := pw_kindS
  have eP := pw_elemP
  have iS := pw_implS
  have n8 : ∀ o, (ReflectliteValue.method (ReflectliteValue.valueError "reflectlite.Value.IsNil" 0) ReflectliteValue.isNil #[.agg #[.pointer (some ⟨7, 241, none⟩), .pointer (some ⟨w.heap.size, 0, none⟩), .int .u64 150]]).run Tryz.prog ((w.alloc (.cells #[.pointer (some ⟨tb, 0, none⟩)] 241)).alloc o) = .ok (.bool false) ((w.alloc (.cells #[.pointer (some ⟨tb, 0, none⟩)] 241)).alloc o) := fun o =>
    pw_isNilP _ ⟨tb, 0, none⟩ _ (cell_blk ((heap_old (by simp)).trans (heap_new rfl)) 0)
  have hc := fun W q1 q2 q3 q4 q5 q6 q7 q8 q9 => prop_as_hit c0 c1 c2 tb o0 o1 o2 W h0 h1 h2 q1 q2 q3 q4 q5 q6 q7 w.heap.size q8 q9
  have Hc := Lib.hid hc
  clear hc
  go_enter Tryz.func51, Tryz.ntmps51
  go_wp2_with (go_at_call 87; refine (Hc.out _ (by simp; omega) ((World.cell?_of_block (Below.block (B := w.heap.size) (by go_grown) _ htl)).trans ht0) ((World.cell?_of_block (Below.block (B := w.heap.size) (by go_grown) _ htl)).trans ht1) ((World.cell?_of_block (Below.block (B := w.heap.size) (by go_grown) _ htl)).trans ht2) ((frozen_of_block (Below.block (B := w.heap.size) (by go_grown) _ htl)).trans hf0) ((frozen_of_block (Below.block (B := w.heap.size) (by go_grown) _ htl)).trans hf1) ((frozen_of_block (Below.block (B := w.heap.size) (by go_grown) _ htl)).trans hf2) (by simp; omega) (cell_blk (cs := #[.pointer (some ⟨tb, 0, none⟩)]) (t := 241) (m := (0, 0)) (by simp (disch := (first | omega | (simp only [World.size_alloc]; omega))) only [heap_new, heap_old]) 0)).mono ?_; rintro ev w1 ⟨rfl, hr0, hr1, hr2, hr9⟩)
  go_ret
  exact ⟨rfl, hr0, hr1, hr2, Below.trans (by go_grown) hr9⟩

end Go.Vir


namespace Go.Vir
open Go Go.RowKit Go.Proofs Go.Shelf Go.Extern.Stop Go.Stop Go.Extern
attribute [local go_sem] Oper.semAt_some

theorem pw_noIs (v : Value) (xT : TypeId) (w : World) : (Instr.typeAssert (.iface 239 v) xT 296 true).run Tryz.prog w = .ok (.tuple #[.nilIface, .bool false]) w := run_typeAssert_lacksB Tryz.underlying296 (by kernel_rfl) (by kernel_rfl) v xT w
theorem pw_hasUnwrap (v : Value) (xT : TypeId) (w : World) : (Instr.typeAssert (.iface 239 v) xT 167 true).run Tryz.prog w = .ok (.tuple #[.iface 239 v, .bool true]) w := run_typeAssert_hasB Tryz.underlying167 (by kernel_rfl) v xT w
theorem pw_methodUnwrap (v : Value) (w : World) : (Go.method 465 239 v "Unwrap").run Tryz.prog w = .ok (289, v) w := by kernel_rfl

set_option maxHeartbeats 4000000 in
theorem is_wrapped (c0 c1 : Int) (a : Addr) (w : World) :
    Calls Tryz.prog 159 #[.iface 239 (.agg #[.int .i64 c0, .int .i64 c1, .iface 333 (.pointer (some a))]), .iface 333 (.pointer (some a))] w fun e w' => e = .returned (.bool true) ∧ Below w.heap.size w w' := by
  obtain ⟨i, hi, hcmp⟩ := Option.map_eq_some_iff.1 is_comp
  obtain ⟨j, hj, hjs⟩ := Option.map_eq_some_iff.1 is_size
  have h8 := @run_callFunc_extern Tryz.prog 110 _ ReflectliteType.typeOf Tryz.func110 (by kernel_rfl) (by kernel_rfl) (by kernel_rfl) (by kernel_rfl)
  have h32 := @run_callFunc_extern Tryz.prog 278 _ cmpM Tryz.func278 (by kernel_rfl) (by kernel_rfl) (by kernel_rfl) (by kernel_rfl)
  have tT := is_typeOf
  have cT := is_comparable
  have mR := is_methodComparable
  have nI := pw_noIs
  have hU := pw_hasUnwrap
  have mU := pw_methodUnwrap
  have hty := fun v W => run_eql_iface_types (P := Tryz.prog) 239 333 v (.pointer (some a)) Tryz.underlying50 (by decide) W
  have heq := fun W => run_eql_iface_ptr_same (P := Tryz.prog) W a Tryz.underlying50 Tryz.underlying333 hi hcmp hj
  go_enter Tryz.func159, Tryz.ntmps159
  go_wp2
  refine wp_loop_rounds 2 ?_
  rw [rounds_succ]
  go_wp2
  rw [rounds_succ]
  go_wp2
  go_ret
  exact ⟨rfl, by go_grown⟩

set_option maxHeartbeats 4000000 in
theorem prop_told (ln cd : Int) (ep : Addr) (w : World) (hf : w.cell? ⟨2, 0, none⟩ = some (.iface 333 (.pointer (some ep)))) (hfl : 2 < w.heap.size)
    (hg : w.cell? ⟨0, 0, none⟩ = some (.iface 159 (.agg #[.pointer (some ⟨7, 50, none⟩)]))) (hgl : 0 < w.heap.size) :
    Calls Tryz.prog 137 #[errP (.iface 333 (.pointer (some ep))) ln cd] w fun ev w' => ev = .returned (.tuple #[.int .i64 ln, .int .i64 cd]) ∧ Below w.heap.size w w' := by
  have hb : (w.alloc (.cells #[.int .i64 0, .int .i64 0, .nilIface] 239)).heap[w.heap.size]? = some (.cells #[.int .i64 0, .int .i64 0, .nilIface] 239 (0, 0)) := heap_new rfl
  have hbA : Below w.heap.size w (w.alloc (.cells #[.int .i64 0, .int .i64 0, .nilIface] 239)) := by go_grown
  have hIs := is_wrapped ln cd ep (w.alloc (.cells #[.int .i64 0, .int .i64 0, .nilIface] 239))
  have hAs := fun (W : World) (hW : Below (w.heap.size + 1) (w.alloc (.cells #[.int .i64 0, .int .i64 0, .nilIface] 239)) W) =>
    prop_as (.int .i64 ln) (.int .i64 cd) (.iface 333 (.pointer (some ep))) w.heap.size (.int .i64 0) (.int .i64 0) .nilIface W rfl rfl rfl (by have := hW.size; simp at this; omega)
      ((cellOf hW (by omega)).trans ((cellOf hbA hgl).trans hg)) (by have := hW.size; simp at this; omega) (cell_blk ((hW.block _ (by omega)).trans hb) 0) (cell_blk ((hW.block _ (by omega)).trans hb) 1) (cell_blk ((hW.block _ (by omega)).trans hb) 2)
      (frozen_blk ((hW.block _ (by omega)).trans hb) 0) (frozen_blk ((hW.block _ (by omega)).trans hb) 1) (frozen_blk ((hW.block _ (by omega)).trans hb) 2)
  have hf1 := (cellOf hbA hfl).trans hf
  rw [World.size_alloc] at hIs
  have HIs := Lib.hid hIs
  have HAs := Lib.hid hAs
  clear hIs hAs hg hb hf
  unfold errP
  go_enter Tryz.func137, Tryz.ntmps137
  go_wp2_with fail
  refine HIs.out.mono ?_
  rintro e w1 ⟨rfl, hb1⟩
  have hbw1 := hbA.trans (hb1.mono (by omega))
  go_wp2_with fail
  refine (HAs.out w1 hb1).mono ?_
  rintro e w2 ⟨rfl, h0, h1, h2, hb2⟩
  have hbw2 := hbw1.trans hb2
  go_upto_region 3 with fail
  go_quiet (fail)
  go_wp2
  go_ret2
  exact ⟨rfl, hbw2.trans (Below.mono (below_drewN w2.heap.size _ _) hbw2.size)⟩

set_option maxHeartbeats 4000000 in
theorem prop_told_nil (ep : Addr) (w : World) (hf : w.cell? ⟨2, 0, none⟩ = some (.iface 333 (.pointer (some ep)))) (hfl : 2 < w.heap.size) :
    Calls Tryz.prog 137 #[.nilIface] w fun ev w' => ev = .returned (.tuple #[.int .i64 0, .int .i64 0]) ∧ Below w.heap.size w w' := by
  have hq : ∀ W : World, (binOp .eql 50 .nilIface (.iface 333 (.pointer (some ep)))).run Tryz.prog W = .ok (.bool false) W := fun W => run_eql_iface_nil_left _ _ _ Tryz.underlying50
  have hf1 : (w.alloc (.cells #[.int .i64 0, .int .i64 0, .nilIface] 239)).cell? ⟨2, 0, none⟩ = some (.iface 333 (.pointer (some ep))) := (World.cell?_alloc_lt _ _ _ hfl).trans hf
  clear hf
  go_enter Tryz.func137, Tryz.ntmps137
  go_wp2
  go_ret2
  exact ⟨rfl, by go_grown⟩

theorem read_line {s : List UInt8} {ss : List (List UInt8)} {k : Int} {loose : Bool} (h : (readB s ss k loose).2.2 = 0) : (readB s ss k loose).2.1 = 0 := by
  obtain ⟨_, _, _, out, _, he, _⟩ := read_ok h
  rw [he]

set_option maxHeartbeats 4000000 in
theorem prop_Read (A : Option Addr) (n c : Nat) (k : Int) (loose : Bool) (ss : List (List UInt8)) (s : List UInt8) (w : World) (hG : GlobP w) (hz : Strs w w.heap.size A n ss) (hn : n ≤ 1000000) (hs : ∀ x ∈ ss, x.length ≤ 1000000) (hl : s.length ≤ 20000) :
    Calls Tryz.prog 108 #[.string ⟨s.toArray⟩, .slice A n c, .int .i64 k, .bool loose] w fun e w' => ∃ A' n' c', e = .returned (.tuple #[.slice A' n' c', .int .i64 (readB s ss k loose).2.1, .int .i64 (readB s ss k loose).2.2]) ∧ n' ≤ c' ∧
      Rgs w' w'.heap.size A' n' (readB s ss k loose).1 ∧ Below w.heap.size w w' := by
  have hof := prop_of A n c ss w hn hz
  obtain ⟨ep, hef⟩ := hG.ef
  have hrd := fun (W : World) (hW : Below w.heap.size w W) (r ck : Nat) (es : Array MapEntry) (hr : W.heap[r]? = some (.map es ck)) (ha : Asc es (kvOf ss 0)) =>
    have hbA : Below W.heap.size W (W.alloc (.cells (rdCs A n c r k loose none 0 0) 207)) := by go_grown
    have hws := hW.size
    have hrl := (Array.getElem?_eq_some_iff.1 hr).1
    prop_read W.heap.size r ck n c A k loose es ss s ep (W.alloc (.cells (rdCs A n c r k loose none 0 0) 207)) (heap_new rfl) (Nat.lt_of_lt_of_le hG.elt hws) ((cellOf hbA (Nat.lt_of_lt_of_le hG.elt hws)).trans ((cellOf hW hG.elt).trans hef))
      ((hG.f.below hW).below hbA) (((hz.below hW).more hws).below hbA |>.more hbA.size) hn hs ((hbA.block r hrl).trans hr) ha hl
  have hG2 := hG
  have hbad := @read_bad s ss k loose
  have hline := @read_line s ss k loose
  generalize readB s ss k loose = rr at *
  have Hof := Lib.hid hof
  have Hrd := Lib.hid hrd
  have HG := Lib.hid hG2
  have Hef := Lib.hid hef
  have Hbad := Lib.hid hbad
  have Hline := Lib.hid hline
  clear hof hrd hG hG2 hef hz hs hbad hline
  go_enter Tryz.func108, Tryz.ntmps108
  go_wp2_with fail
  refine Hof.out.mono ?_
  rintro e w1 ⟨r, es, ck, rfl, hr, ha, hb1⟩
  have hrd := Hrd.out w1 hb1 r ck es hr ha
  have Hrd2 := Lib.hid hrd
  clear hrd hr ha
  unfold rdCs at Hrd2
  go_wp2_with fail
  refine Hrd2.out.mono ?_
  rintro e w2 ⟨he, hap⟩
  have hb2 : Below w.heap.size w w2 := hb1.trans (Below.mono (show Below w1.heap.size w1 w2 from
    (show Below w1.heap.size w1 (w1.alloc (.cells #[.slice A n c, .map (some r), .int .i64 k, .bool loose, .slice none 0 0] 207)) by go_grown).trans ⟨hap.os, hap.tape, hap.output, hap.size, fun k hk => hap.block k (by simp; omega) (by omega)⟩) hb1.size)
  have hG2 := HG.out.below hb2
  have hef2 := (cellOf hb2 HG.out.elt).trans Hef.out
  rcases he with ⟨h0, A', n', c', rfl, hnc, hrg⟩ | ⟨h0, rfl⟩
  · have htd := prop_told_nil ep w2 hef2 hG2.elt
    have hl0 := Hline.out h0
    have Htd := Lib.hid htd
    have Hrg := Lib.hid hrg
    have Hl0 := Lib.hid hl0
    have H0 := Lib.hid h0
    clear htd hrg hl0 h0 hap hef2
    go_wp2_with fail
    refine Htd.out.mono ?_
    rintro e w3 ⟨rfl, hb3⟩
    go_wp2_with fail
    go_ret3
    exact ⟨A', n', c', by rw [Hl0.out, H0.out]; rfl, hnc, (Hrg.out.below hb3).more hb3.size, hb2.trans (hb3.mono hb2.size)⟩
  · have htd := prop_told rr.2.1 rr.2.2 ep w2 hef2 hG2.elt hG2.f.typ hG2.f.tlt
    have hl0 := Hbad.out h0
    have Htd := Lib.hid htd
    have Hl0 := Lib.hid hl0
    clear htd hl0 h0 hap hef2
    go_wp2_with fail
    refine Htd.out.mono ?_
    rintro e w3 ⟨rfl, hb3⟩
    go_wp2_with fail
    go_ret3
    exact ⟨none, 0, 0, rfl, Nat.le_refl _, by rw [Hl0.out]; exact Rgs.nil _ _ _, hb2.trans (hb3.mono hb2.size)⟩

end Go.Vir


namespace Go.Vir
open Go Go.RowKit

abbrev KB := List (List Int × Int)
def intC (v : Int) : Value := .int .i64 v
def blkV (b : List Int) : Value := .agg (b.map intC).toArray
def AscB (es : Array MapEntry) (kvs : KB) : Prop := es.toList.map (fun e => (e.key, e.val)) = kvs.map fun x => (blkV x.1, intC x.2)
def lookB (k : List Int) : KB → Nat → Option (Nat × Int)
  | [], _ => none
  | x :: t, i => if k = x.1 then some (i, x.2) else lookB k t (i + 1)
def valB2 (k : List Int) : KB → Option Int
  | [] => none
  | x :: t => if k = x.1 then some x.2 else valB2 k t
theorem look_valB2 (k : List Int) : ∀ (kvs : KB) (i : Nat), (lookB k kvs i).map (·.2) = valB2 k kvs
  | [], _ => rfl
  | x :: t, i => by
    unfold lookB valB2
    by_cases hk : k = x.1
    · simp [hk]
    · simp only [hk, if_false]; exact look_valB2 k t (i + 1)

theorem all_range_int : ∀ (xs ys : List Int), xs.length = ys.length → ((List.range xs.length).all fun i => xs.getD i 0 == ys.getD i 0) = (xs == ys)
  | [], [], _ => rfl
  | x :: xs, y :: ys, h => by
    have ih := all_range_int xs ys (by simpa using h)
    rw [List.length_cons, List.range_succ_eq_map, List.all_cons, List.all_map]
    simp only [List.getD_cons_zero, Function.comp_def, List.getD_cons_succ, ih]
    simp [List.cons_beq_cons]
  | [], _ :: _, h => by simp at h
  | _ :: _, [], h => by simp at h

section
variable {P : Program}
theorem run_equalIn_blk (w : World) (d : Nat) (t e : TypeId) (n : Nat) (ht : P.underlying t = some (.array n e)) (he : P.underlying e = some (.int .i64)) (hsz : ∀ w, (sizeOf e).run P w = .ok 1 w)
    (xs ys : List Int) (hx : xs.length = n) (hy : ys.length = n) : (Op.equalIn (d + 2) t (blkV xs) (blkV ys)).run P w = .ok (xs == ys) w := by
  unfold blkV
  rw [← all_range_int xs ys (hx.trans hy.symm), hx, List.range_eq_range', Op.equalIn]
  simp only [Sem.run_bind, run_underlying ht, Result.andThen_ok, hsz, Std.Legacy.Range.forIn_eq_forIn_range', Std.Legacy.Range.size, Nat.sub_zero, Nat.add_sub_cancel, Nat.div_one]
  have hl : ∀ i ∈ List.range' 0 n 1, i < n := fun i hi => by simpa using (List.mem_range'_1.1 hi).2
  generalize List.range' 0 n 1 = l at hl ⊢
  induction l with
  | nil => simp
  | cons i l ih =>
    have hi : i < n := hl i (by simp)
    have px : (part e (xs.map intC).toArray (i * 1)).run P w = .ok (intC (xs.getD i 0)) w := by
      simp [part, isAgg, run_underlying he, List.getD, List.getElem?_eq_getElem (show i < xs.length by omega)]
    have py : (part e (ys.map intC).toArray (i * 1)).run P w = .ok (intC (ys.getD i 0)) w := by
      simp [part, isAgg, run_underlying he, List.getD, List.getElem?_eq_getElem (show i < ys.length by omega)]
    have pe : (Op.equalIn (d + 1) e (intC (xs.getD i 0)) (intC (ys.getD i 0))).run P w = .ok (xs.getD i 0 == ys.getD i 0) w := by
      rw [intC, intC, run_equalIn_int w d e .i64 .i64 _ _ he]
    simp only [List.forIn_cons, Sem.run_bind, px, py, pe, Result.andThen_ok, List.all_cons]
    cases hb : (xs.getD i 0 == ys.getD i 0)
    · simp
    · simp only [Bool.not_true, Bool.false_eq_true, if_false, Sem.run_pure, Result.andThen_ok, Bool.true_and]
      exact ih fun j hj => hl j (by simp [hj])
theorem run_checkKey_blk (w : World) (t e : TypeId) (n : Nat) (ht : P.underlying t = some (.array n e)) (he : P.underlying e = some (.int .i64)) (hsz : ∀ w, (sizeOf e).run P w = .ok 1 w)
    (em : Bool) (d : Nat) (xs : List Int) (hx : xs.length = n) : (Instr.checkKey em (d + 2) t (blkV xs)).run P w = .ok () w := by
  unfold blkV
  rw [Instr.checkKey]
  simp only [Sem.run_bind, run_underlying ht, Result.andThen_ok, Std.Legacy.Range.forIn_eq_forIn_range', Std.Legacy.Range.size, Nat.sub_zero, Nat.add_sub_cancel, Nat.div_one]
  have hl : ∀ i ∈ List.range' 0 n 1, i < n := fun i hi => by simpa using (List.mem_range'_1.1 hi).2
  generalize List.range' 0 n 1 = l at hl ⊢
  induction l with
  | nil => simp
  | cons i l ih =>
    have hi : i < n := hl i (by simp)
    have px : (part e (xs.map intC).toArray (i * 1)).run P w = .ok (intC (xs.getD i 0)) w := by
      simp [part, isAgg, run_underlying he, List.getD, List.getElem?_eq_getElem (show i < xs.length by omega)]
    have pe : (Instr.checkKey em (d + 1) e (intC (xs.getD i 0))).run P w = .ok () w := by
      rw [intC, Instr.checkKey]
      simp [run_underlying he, Result.andThen]
    simp only [List.forIn_cons, Sem.run_bind, px, pe, Result.andThen_ok, hsz, Sem.run_pure]
    simpa using ih fun j hj => hl j (by simp [hj])
theorem run_asking_blk (w : World) (t e : TypeId) (n : Nat) (ht : P.underlying t = some (.array n e)) (he : P.underlying e = some (.int .i64)) (hsz : ∀ w, (sizeOf e).run P w = .ok 1 w)
    (k : List Int) (hk : k.length = n) : ∀ (l : List MapEntry) (kvs : KB) (i : Nat), l.map (fun e => (e.key, e.val)) = kvs.map (fun x => (blkV x.1, intC x.2)) → (∀ x ∈ kvs, x.1.length = n) →
    (Instr.findAsking t (blkV k) l i).run P w = .ok ((lookB k kvs i).map fun x => (x.1, intC x.2)) w
  | [], [], _, _, _ => rfl
  | [], _ :: _, _, h, _ => by simp at h
  | _ :: _, [], _, h, _ => by simp at h
  | y :: l, x :: kvs, i, h, hn => by
    simp only [List.map_cons, List.cons.injEq, Prod.mk.injEq] at h
    obtain ⟨⟨h1, h2⟩, h3⟩ := h
    unfold Instr.findAsking Op.equal
    have he := run_equalIn_blk w 9998 t e n ht he hsz k x.1 hk (hn x (List.mem_cons_self ..))
    rw [h1, Sem.run_bind, show Op.maxDepth = 9998 + 2 from rfl, he, Result.andThen_ok]
    by_cases hkx : k = x.1
    · have : (k == x.1) = true := by simpa using hkx
      rw [this]
      simp [lookB, hkx, h2]
    · have : (k == x.1) = false := by simpa using hkx
      rw [this]
      simp only [Bool.false_eq_true, if_false, lookB, hkx]
      exact run_asking_blk w t _ n ht ‹_› hsz k hk l kvs (i + 1) h3 fun y hy => hn y (List.mem_cons_of_mem _ hy)
end
section
variable {P : Program} {t K e E : TypeId} {n r : Nat} {es : Array MapEntry} {clock : Nat} {w : World} {kvs : KB} {k : List Int}
theorem run_find_blk (hK : P.underlying K = some (.array n e)) (he : P.underlying e = some (.int .i64)) (hsz : ∀ w, (sizeOf e).run P w = .ok 1 w) (ha : AscB es kvs) (hn : ∀ x ∈ kvs, x.1.length = n) (hk : k.length = n) :
    (Instr.findKey K (blkV k) es.toList).run P w = .ok ((lookB k kvs 0).map fun x => (x.1, intC x.2)) w := by
  rw [run_findKey_eq w (by rw [hK]) (blkV k) es.toList]
  exact run_asking_blk w K e n hK he hsz k hk es.toList kvs 0 ha hn
theorem run_look_kb (ok : Bool) (ht : P.underlying t = some (.map K E)) (hK : P.underlying K = some (.array n e)) (he : P.underlying e = some (.int .i64)) (hsz : ∀ w, (sizeOf e).run P w = .ok 1 w) (hz : (zeroValue E).run P w = .ok (.int .i64 0) w)
    (hb : w.heap[r]? = some (.map es clock)) (ha : AscB es kvs) (hn : ∀ x ∈ kvs, x.1.length = n) (hk : k.length = n) :
    (Instr.lookup t (.map (some r)) (blkV k) ok).run P w = .ok (if ok then .tuple #[.int .i64 ((valB2 k kvs).getD 0), .bool (valB2 k kvs).isSome] else .int .i64 ((valB2 k kvs).getD 0)) w := by
  have hf := run_find_blk (P := P) (w := w) (k := k) hK he hsz ha hn hk
  rw [← look_valB2 k kvs 0]
  unfold Instr.lookup
  simp only [Sem.run_bind, run_underlying ht, Result.andThen, run_getMap hb, Sem.run_pure, run_checkKey_blk (P := P) w K e n hK he hsz _ 9998 k hk, hf]
  rcases lookB k kvs 0 with _ | ⟨i, v⟩
  · simp [hz, Result.andThen]
  · simp [intC]
theorem run_new_any (v : Int) (ht : P.underlying t = some (.map K E)) (hK : P.underlying K = some (.array n e)) (he : P.underlying e = some (.int .i64)) (hsz : ∀ w, (sizeOf e).run P w = .ok 1 w)
    (ha : AscB es kvs) (hn : ∀ x ∈ kvs, x.1.length = n) (hk : k.length = n) (h0 : valB2 k kvs = none) :
    ∃ es' clock', (∀ w : World, w.heap[r]? = some (.map es clock) → (Instr.mapUpdate t (.map (some r)) (blkV k) (.int .i64 v)).run P w = .ok () (w.putObj r (.map es' clock'))) ∧ AscB es' (kvs ++ [(k, v)]) := by
  refine ⟨es.push { key := blkV k, val := .int .i64 v, born := clock }, clock + 1, fun w hb => ?_, ?_⟩
  · have hf := run_find_blk (P := P) (w := w) (k := k) hK he hsz ha hn hk
    have hl : lookB k kvs 0 = none := by
      have := look_valB2 k kvs 0
      rw [h0] at this
      simpa using this
    rw [hl] at hf
    unfold Instr.mapUpdate
    simp only [Sem.run_bind, run_underlying ht, Result.andThen, run_getMap hb, run_checkKey_blk (P := P) w K e n hK he hsz _ 9998 k hk, hf, Option.map_none, run_setMap _ hb]
  · unfold AscB at ha ⊢
    rw [Array.toList_push, List.map_append, ha, List.map_append]
    rfl
end
end Go.Vir


namespace Go.Vir
open Go Go.RowKit Go.Proofs
attribute [local go_sem] Oper.semAt_some

def blkC (b : List Int) : Array Value := (b.map intC).toArray
theorem zero_blk : Tryz.zeroCells220 = blkC (List.replicate 256 0) := by kernel_rfl
theorem block_nil (row : Nat) : blockT [] row = List.replicate 256 0 := by
  unfold blockT
  rw [show (fun j : Nat => sayR [] ((row * 256 + j : Nat) : Int)) = fun _ => 0 from rfl, List.map_const', List.length_range]
def fillT (l : List Rg) (row : Nat) (x : Rg) (r : Nat) : List Int := (List.range 256).map fun (j : Nat) => if x.f ≤ ((row * 256 + j : Nat) : Int) ∧ row * 256 + j < r ∧ ((row * 256 + j : Nat) : Int) ≤ x.t then x.v else sayR l ((row * 256 + j : Nat) : Int)
theorem fill_start (l : List Rg) (row : Nat) (x : Rg) (q : Nat) (h : (q : Int) = max ((row * 256 : Nat) : Int) x.f) : fillT l row x q = blockT l row := by
  unfold fillT blockT
  apply List.map_congr_left
  intro j _
  rw [if_neg]
  omega
theorem fill_end (l : List Rg) (row : Nat) (x : Rg) (q : Nat) (h : ¬ (q : Int) ≤ min (((row * 256 : Nat) : Int) + 255) x.t) : fillT l row x q = blockT (l ++ [x]) row := by
  unfold fillT blockT
  apply List.map_congr_left
  intro j hj
  rw [say_snoc]
  have hj2 : j < 256 := by simpa using hj
  by_cases hc : x.f ≤ ((row * 256 + j : Nat) : Int) ∧ ((row * 256 + j : Nat) : Int) ≤ x.t
  · rw [if_pos hc, if_pos ⟨hc.1, by omega, hc.2⟩]
  · rw [if_neg hc, if_neg (fun h => hc ⟨h.1, h.2.2⟩)]
theorem fill_step (l : List Rg) (row : Nat) (x : Rg) (q : Nat) (h1 : row * 256 ≤ q) (h2 : x.f ≤ q) (h : (q : Int) ≤ min (((row * 256 : Nat) : Int) + 255) x.t) : (fillT l row x q).set (q - row * 256) x.v = fillT l row x (q + 1) := by
  unfold fillT
  apply List.ext_getElem
  · simp
  · intro i hi1 hi2
    have hi : i < 256 := by simpa using hi2
    rw [List.getElem_set]
    simp only [List.getElem_map, List.getElem_range]
    by_cases e : q - row * 256 = i
    · rw [if_pos e, if_pos (by omega)]
    · rw [if_neg e]
      by_cases hc : x.f ≤ ((row * 256 + i : Nat) : Int) ∧ row * 256 + i < q ∧ ((row * 256 + i : Nat) : Int) ≤ x.t
      · rw [if_pos hc, if_pos ⟨hc.1, by omega, hc.2.2⟩]
      · rw [if_neg hc, if_neg (fun h => hc ⟨h.1, by omega, h.2.2⟩)]
theorem fill_len (l : List Rg) (row : Nat) (x : Rg) (q : Nat) : (fillT l row x q).length = 256 := by simp [fillT]
theorem blkC_set (b : List Int) (j : Nat) (v : Int) : (blkC b).setIfInBounds j (.int .i64 v) = blkC (b.set j v) := by
  unfold blkC
  rw [List.setIfInBounds_toArray, List.map_set]
  rfl
theorem blkC_get {b : List Int} {j : Nat} (h : j < b.length) : (blkC b)[j]? = some (.int .i64 b[j]) := by
  unfold blkC
  simp [h, intC]
theorem blkC_size (b : List Int) : (blkC b).size = b.length := by simp [blkC]
theorem blk_size : (Tryz.prog.info? 220).map (·.size) = some 256 := by kernel_rfl

set_option maxRecDepth 100000 in
set_option maxHeartbeats 4000000 in
theorem trie_fill (row : Nat) (A : Option Addr) (n c : Nat) (l : List Rg) (w : World) (hx : Rgs w w.heap.size A n l) (hn : n ≤ 1000000) (hrow : row < 4352) :
    Calls Tryz.prog 142 #[.int .i64 (row : Int), .slice A n c] w fun e w' => e = .returned (blkV (blockT l row)) ∧ Below w.heap.size w w' := by
  have Hx := Lib.hid hx
  have Hlen := Lib.hid hx.len
  have hfr : (row : Int) * 256 = ((row * 256 : Nat) : Int) := by omega
  have hfb : row * 256 ≤ 1113856 := by omega
  obtain ⟨fr, hfrn⟩ : ∃ fr, fr = row * 256 := ⟨_, rfl⟩
  rw [← hfrn] at hfr hfb
  have Hfrn := Lib.hid hfrn
  clear hx hfrn hrow
  go_enter Tryz.func142, Tryz.ntmps142
  go_wp2_with fail
  go_loopw [14] (fun i wr => ∃ k : Nat, k ≤ n ∧ i = .int .i64 (k : Int) ∧ wr.heap[w.heap.size + 1]? = some (.cells (blkC (blockT (l.take k) row)) 220 (0, 0)) ∧ wr.heap[w.heap.size]? = some (.cells Tryz.zeroCells220 220 (0, 0)) ∧ Below w.heap.size w wr) (fun i _ => n - (RowKit.intOf i).toNat)
  case atStart => exact ⟨0, Nat.zero_le _, rfl, (heap_new (by simp)).trans (by rw [List.take_zero, block_nil, zero_blk]), (heap_old (by simp)).trans (heap_new rfl), by go_grown⟩
  case round =>
    obtain ⟨k, hk, rfl, hg1, hg0, hbr⟩ := hrel
    obtain ⟨wo, hwo⟩ : ∃ wo, wo = wr := ⟨_, rfl⟩
    subst hwo
    have hsr := (Array.getElem?_eq_some_iff.1 hg1).1
    rcases Nat.lt_or_ge k n with hlt | hge
    · obtain ⟨zb, zo, rfl, hzb, hzc⟩ := Hx.out.at_ (by omega)
      have hkl : k < l.length := by rw [Hlen.out]; exact hlt
      obtain ⟨z1, z2, z3⟩ := hzc k hkl
      have u1 := (cellOf hbr hzb).trans z1
      have u2 := (cellOf hbr hzb).trans z2
      have u3 := (cellOf hbr hzb).trans z3
      have htk : l.take (k + 1) = l.take k ++ [l[k]] := List.take_succ_eq_append_getElem hkl
      generalize l[k] = x at *
      obtain ⟨xf, xt, xv⟩ := x
      simp only at u1 u2 u3
      obtain ⟨q0, hq0⟩ : ∃ q0 : Nat, max (fr : Int) xf = (q0 : Int) := ⟨(max (fr : Int) xf).toNat, by omega⟩
      have Htk := Lib.hid htk
      have Hq0 := Lib.hid hq0
      have hb2 : Below w.heap.size w (wo.alloc (.cells #[.int .i64 xf, .int .i64 xt, .int .i64 xv] 139)) := hbr.alloc hbr.size _
      have h1 := (heap_old (w := wo) (o := .cells #[.int .i64 xf, .int .i64 xt, .int .i64 xv] 139) hsr).trans hg1
      have h0 := (heap_old (w := wo) (o := .cells #[.int .i64 xf, .int .i64 xt, .int .i64 xv] 139) (show w.heap.size < wo.heap.size by omega)).trans hg0
      have hy := heap_new (w := wo) (o := .cells #[.int .i64 xf, .int .i64 xt, .int .i64 xv] 139) rfl
      have Hst := Lib.hid (And.intro h1 (And.intro h0 (And.intro hy hb2)))
      clear htk hzc z1 z2 z3 h1 h0 hy hb2 hg1 hg0
      go_wp2_with fail
      go_loopw [9] (fun i wr2 => ∃ q : Nat, fr ≤ q ∧ xf ≤ (q : Int) ∧ (q ≤ 1114112 ∨ q = q0) ∧ i = .int .i64 (q : Int) ∧ wr2.heap[w.heap.size + 1]? = some (.cells (blkC (fillT (l.take k) row ⟨xf, xt, xv⟩ q)) 220 (0, 0)) ∧ wr2.heap[w.heap.size]? = some (.cells Tryz.zeroCells220 220 (0, 0)) ∧
        wr2.heap[wo.heap.size]? = some (.cells #[.int .i64 xf, .int .i64 xt, .int .i64 xv] 139 (0, 0)) ∧ Below w.heap.size w wr2) (fun i _ => 1114112 - (RowKit.intOf i).toNat)
      case atStart =>
        refine ⟨q0, by have := Hq0.out; omega, by have := Hq0.out; omega, .inr rfl, rfl, ?_, Hst.out.2.1, Hst.out.2.2.1, Hst.out.2.2.2⟩
        rw [fill_start _ _ _ _ (by rw [← Hfrn.out]; exact Hq0.out.symm)]
        exact Hst.out.1
      case round =>
        obtain ⟨q, hqf, hqx, hqm, rfl, g1, g0, gy, hbq⟩ := hrel
        have v2 : wr.cell? ⟨wo.heap.size, 1, none⟩ = some (.int .i64 xt) := cell_blk gy 1
        have v3 : wr.cell? ⟨wo.heap.size, 2, none⟩ = some (.int .i64 xv) := cell_blk gy 2
        by_cases hle : (q : Int) ≤ min ((fr : Int) + 256 - 1) xt
        · have hq255 : q - fr < 256 := by omega
          have v4 := (cell_blk g1 (q - fr)).trans (blkC_get (by rw [fill_len]; exact hq255))
          have v5 := frozen_blk g1 (q - fr)
          have hst := fill_step (l.take k) row ⟨xf, xt, xv⟩ q (by rw [← Hfrn.out]; exact hqf) hqx (by rw [← Hfrn.out]; show (q : Int) ≤ min ((fr : Int) + 255) xt; omega)
          rw [← Hfrn.out] at hst
          have Hst2 := Lib.hid hst
          generalize (fillT (l.take k) row ⟨xf, xt, xv⟩ q)[q - fr]'(by rw [fill_len]; exact hq255) = old at v4
          have g1' := setCell_blk g1 (q - fr) (.int .i64 xv)
          rw [blkC_set, hst] at g1'
          have G1 := Lib.hid g1'
          have g0' : (wr.setCell ⟨w.heap.size + 1, q - fr, none⟩ (.int .i64 xv)).heap[w.heap.size]? = _ := (Below.heap_setCell _ _ _ _ (by simp)).trans g0
          have gy' : (wr.setCell ⟨w.heap.size + 1, q - fr, none⟩ (.int .i64 xv)).heap[wo.heap.size]? = _ := (Below.heap_setCell _ _ _ _ (by simp; omega)).trans gy
          have hbq' : Below w.heap.size w (wr.setCell ⟨w.heap.size + 1, q - fr, none⟩ (.int .i64 xv)) := hbq.setCell (p := ⟨w.heap.size + 1, q - fr, none⟩) (by simp) _
          have Hq := Lib.hid (And.intro g0' (And.intro gy' hbq'))
          clear hst g1' g0' gy' hbq' g1 g0 gy hbq
          go_wp2_with fail
          go_roundw
          case rel => exact ⟨q + 1, by omega, by omega, .inl (by omega), by first | rfl | (congr 1), G1.out, Hq.out.1, Hq.out.2.1, Hq.out.2.2⟩
          case measure => simp [RowKit.intOf]; omega
        · have hend := fill_end (l.take k) row ⟨xf, xt, xv⟩ q (by rw [← Hfrn.out]; show ¬ (q : Int) ≤ min ((fr : Int) + 255) xt; omega)
          rw [← Htk.out] at hend
          rw [hend] at g1
          have Hg := Lib.hid (And.intro g1 (And.intro g0 hbq))
          clear hend g1 g0 gy hbq
          go_wp2_with fail
          go_roundw
          case rel => exact ⟨k + 1, by omega, by go_num, Hg.out.1, Hg.out.2.1, Hg.out.2.2⟩
          case measure => simp [RowKit.intOf]; omega
    · obtain rfl : k = n := by omega
      have hall : l.take k = l := List.take_of_length_le (by rw [Hlen.out]; exact Nat.le_refl _)
      rw [hall] at hg1
      have hsz : (blkC (blockT l row)).size = 256 := by rw [blkC_size, block_len]
      have hzs : (Tryz.zeroCells220 : Array Value).size = (blkC (blockT l row)).size := by rw [zero_blk, blkC_size, blkC_size, block_len, List.length_replicate]
      have hone : (blkC (blockT l row)).all (·.oneCell') = true := by simp [blkC, intC, Value.oneCell']
      have hbs : Below w.heap.size w (wo.setRow w.heap.size (blkC (blockT l row))) := hbr.trans ⟨rfl, rfl, rfl, by simp [World.setRow], fun j hj => setRow_other _ _ _ _ (by omega)⟩
      have g2 := setRow_heap wo w.heap.size Tryz.zeroCells220 (blkC (blockT l row)) 220 (0, 0) hg0
      have hC : blkV (blockT l row) = .agg (blkC (blockT l row)) := rfl
      generalize blkC (blockT l row) = C at *
      go_wp2_with (first
        | refine wpList_load_row rfl 220 _ rfl (w.heap.size + 1) rfl 220 C (0, 0) _ hg1 Tryz.underlying220 rfl (by rw [hsz]; exact blk_size) ?_
        | refine wpList_store_row rfl 220 _ _ rfl w.heap.size C rfl rfl 220 _ hg0 (by rw [hsz]; exact blk_size) hzs hone ?_)
      exact bodyPost_ret (v := .agg C) (results_cell_row Tryz.results142 _ _ w.heap.size 220 C (0, 0) _ (by rfl) g2 Tryz.underlying220 rfl (by rw [hsz]; exact blk_size)) rfl ⟨by rw [hC], hbs⟩
end Go.Vir


namespace Go.Vir
open Go Go.RowKit Go.Proofs

def IVs (W : World) (B F : Nat) (D : Nat → Prop) (bl : List (List Int)) (xs : List Value) : Prop :=
  xs.length = bl.length ∧ ∀ (j : Nat) (h : j < bl.length), ∃ g c, xs[j]? = some (.slice (some ⟨g, 0, none⟩) bl[j].length c) ∧ bl[j].length ≤ c ∧ F ≤ g ∧ g < B ∧ ¬ D g ∧ Ints W B (some ⟨g, 0, none⟩) bl[j].length bl[j]
structure TrS (F : Nat) (X : Nat → Prop) (W : World) (T : TrV) (Vi Vb : Value) (xs : List Value) : Prop where
  ri : W.ownsRow F 3 1 Vi T.ix.length (T.ix.map intC)
  rb : W.ownsRow F 24 1 Vb T.bl.length xs
  iv : IVs W W.heap.size F (fun k => X k ∨ Vi.ownBlock = some k ∨ Vb.ownBlock = some k) T.bl xs
  ne : ∀ k, Vi.ownBlock = some k → Vb.ownBlock ≠ some k
  xi : ∀ k, Vi.ownBlock = some k → ¬ X k
  xb : ∀ k, Vb.ownBlock = some k → ¬ X k
  hF : F ≤ W.heap.size
  hX : ∀ k, X k → k < W.heap.size

section
variable {W W' : World} {B B' F : Nat} {D D' X : Nat → Prop} {bl : List (List Int)} {xs : List Value} {T : TrV} {Vi Vb : Value}
theorem IVs.keep (h : IVs W B F D bl xs) (hk : ∀ k, F ≤ k → k < B → ¬ D k → W'.heap[k]? = W.heap[k]?) (hB : B ≤ B') (hD : ∀ k, F ≤ k → k < B → ¬ D k → ¬ D' k) : IVs W' B' F D' bl xs :=
  ⟨h.1, fun j hj => by
    obtain ⟨g, c, e, hc, hF, hg, hd, hi⟩ := h.2 j hj
    refine ⟨g, c, e, hc, hF, by omega, hD g hF hg hd, hi.len, fun hn => ?_⟩
    obtain ⟨b, o, e2, hlt, hcell⟩ := hi.at_ hn
    obtain ⟨rfl, rfl⟩ : g = b ∧ 0 = o := by simpa using e2
    exact ⟨g, 0, rfl, by omega, fun i hii => (World.cell?_of_block (a := ⟨g, 0 + i, none⟩) (hk g hF hg hd)).trans (hcell i hii)⟩⟩
theorem IVs.snoc {x : List Int} {g c : Nat} (h : IVs W B F D bl xs) (hF : F ≤ g) (hg : g < B) (hd : ¬ D g) (hc : x.length ≤ c) (hi : Ints W B (some ⟨g, 0, none⟩) x.length x) : IVs W B F D (bl ++ [x]) (xs ++ [.slice (some ⟨g, 0, none⟩) x.length c]) := by
  refine ⟨by simp [h.1], fun j hj => ?_⟩
  rw [List.length_append, List.length_singleton] at hj
  rcases Nat.lt_or_ge j bl.length with h1 | h1
  · rw [List.getElem?_append_left (by rw [h.1]; exact h1), List.getElem_append_left h1]
    exact h.2 j h1
  · obtain rfl : j = bl.length := by omega
    rw [List.getElem?_append_right (by rw [h.1]; exact Nat.le_refl _), h.1, List.getElem_append_right (Nat.le_refl _)]
    simp only [Nat.sub_self, List.getElem_cons_zero, List.getElem?_cons_zero]
    exact ⟨g, c, rfl, hc, hF, hg, hd, hi⟩
theorem IVs.nil : IVs W B F D [] [] := ⟨rfl, fun j hj => absurd hj (by simp)⟩

theorem TrS.nil (hF : F ≤ W.heap.size) (hX : ∀ k, X k → k < W.heap.size) : TrS F X W { ix := [], bl := [] } (.slice none 0 0) (.slice none 0 0) [] :=
  ⟨World.ownsRow_nil _ _ _ _, World.ownsRow_nil _ _ _ _, IVs.nil, (fun k h => by cases h), (fun k h => by cases h), (fun k h => by cases h), hF, hX⟩
theorem TrS.keep (h : TrS F X W T Vi Vb xs) (hs : W.heap.size ≤ W'.heap.size) (hk : ∀ k, k < W.heap.size → ¬ X k → W'.heap[k]? = W.heap[k]?) : TrS F X W' T Vi Vb xs := by
  have row : ∀ {e : TypeId} {v : Value} {n : Nat} {ys : List Value}, W.ownsRow F e 1 v n ys → (∀ k, v.ownBlock = some k → ¬ X k) → W'.ownsRow F e 1 v n ys := fun hr hx => by
    refine ⟨hr.1, ?_⟩
    rcases hr.2 with hn | ⟨g, cap, cur, rfl, hb, hgg, rest⟩
    · exact .inl hn
    · exact .inr ⟨g, cap, cur, rfl, hb, (hk g (Array.getElem?_eq_some_iff.1 hgg).1 (hx g rfl)).trans hgg, rest⟩
  exact ⟨row h.ri h.xi, row h.rb h.xb, h.iv.keep (fun k _ hlt hd => hk k hlt (fun hx => hd (.inl hx))) hs (fun _ _ _ hd => hd), h.ne, h.xi, h.xb, by have := h.hF; omega, fun k hx => by have := h.hX k hx; omega⟩
theorem TrS.below (h : TrS F X W T Vi Vb xs) (hb : Below W.heap.size W W') : TrS F X W' T Vi Vb xs := h.keep hb.size (fun k hk _ => hb.block k hk)
theorem lt_own {e : TypeId} {v : Value} {n : Nat} {ys : List Value} (h : W.ownsRow F e 1 v n ys) : ∀ k, v.ownBlock = some k → F ≤ k ∧ k < W.heap.size := fun k hk => by
  obtain ⟨h1, o, h2, _⟩ := row_data h k hk
  exact ⟨h1, (Array.getElem?_eq_some_iff.1 h2).1⟩
theorem TrS.addIx {v : Int} {Vi' : Value} (h : TrS F X W T Vi Vb xs) (hr : W'.ownsRow F 3 1 Vi' (T.ix.length + 1) (T.ix.map intC ++ [intC v])) (hg : W.grownBy W' Vi.ownBlock) (hat : Vi'.ownBlock = Vi.ownBlock ∨ ∃ k, W.heap.size ≤ k ∧ Vi'.ownBlock = some k) :
    TrS F X W' { ix := T.ix ++ [v], bl := T.bl } Vi' Vb xs := by
  have hnew : ∀ k, Vi'.ownBlock = some k → Vi.ownBlock = some k ∨ W.heap.size ≤ k := fun k hk => by
    rcases hat with e | ⟨q, hq, e⟩
    · exact .inl (e ▸ hk)
    · rw [e] at hk; obtain rfl := Option.some.inj hk; exact .inr hq
  refine ⟨by simpa using hr, h.rb.kept hg ?_, h.iv.keep (fun k _ hlt hd => hg.block k hlt (fun e => hd (.inr (.inl e.symm)))) hg.size (fun k _ hlt hd hd' => ?_), fun k hk hb => ?_, fun k hk hx => ?_, h.xb, by have := h.hF; have := hg.size; omega, fun k hx => by have := h.hX k hx; have := hg.size; omega⟩
  · rcases hb : Vb.ownBlock with _ | g
    · exact .inl rfl
    · exact .inr fun e => h.ne g e.symm hb
  · rcases hd' with hx | hi | hb
    · exact hd (.inl hx)
    · rcases hnew k hi with h1 | h1
      · exact hd (.inr (.inl h1))
      · omega
    · exact hd (.inr (.inr hb))
  · rcases hnew k hk with h1 | h1
    · exact h.ne k h1 hb
    · have := (lt_own h.rb k hb).2; omega
  · rcases hnew k hk with h1 | h1
    · exact h.xi k h1 hx
    · have := h.hX k hx; omega
theorem TrS.addBl {x : List Int} {Vb' : Value} {g c : Nat} (h : TrS F X W T Vi Vb xs) (hF : F ≤ g) (hgl : g < W.heap.size) (hgx : ¬ X g) (hgi : Vi.ownBlock ≠ some g) (hgb : Vb.ownBlock ≠ some g) (hc : x.length ≤ c) (hi : Ints W W.heap.size (some ⟨g, 0, none⟩) x.length x)
    (hr : W'.ownsRow F 24 1 Vb' (T.bl.length + 1) (xs ++ [.slice (some ⟨g, 0, none⟩) x.length c])) (hg : W.grownBy W' Vb.ownBlock) (hat : Vb'.ownBlock = Vb.ownBlock ∨ ∃ k, W.heap.size ≤ k ∧ Vb'.ownBlock = some k) :
    TrS F X W' { ix := T.ix, bl := T.bl ++ [x] } Vi Vb' (xs ++ [.slice (some ⟨g, 0, none⟩) x.length c]) := by
  have hnew : ∀ k, Vb'.ownBlock = some k → Vb.ownBlock = some k ∨ W.heap.size ≤ k := fun k hk => by
    rcases hat with e | ⟨q, hq, e⟩
    · exact .inl (e ▸ hk)
    · rw [e] at hk; obtain rfl := Option.some.inj hk; exact .inr hq
  have hiv := h.iv.snoc hF hgl (fun hd => by rcases hd with h1 | h1 | h1 <;> contradiction) hc hi
  refine ⟨h.ri.kept hg ?_, by simpa using hr, hiv.keep (fun k _ hlt hd => hg.block k hlt (fun e => hd (.inr (.inr e.symm)))) hg.size (fun k _ hlt hd hd' => ?_), fun k hk hb => ?_, h.xi, fun k hk hx => ?_, by have := h.hF; have := hg.size; omega, fun k hx => by have := h.hX k hx; have := hg.size; omega⟩
  · rcases hb : Vi.ownBlock with _ | q
    · exact .inl rfl
    · exact .inr fun e => h.ne q hb e.symm
  · rcases hd' with hx | hi | hb
    · exact hd (.inl hx)
    · exact hd (.inr (.inl hi))
    · rcases hnew k hb with h1 | h1
      · exact hd (.inr (.inr h1))
      · omega
  · rcases hnew k hb with h1 | h1
    · exact h.ne k hk h1
    · have := (lt_own h.ri k hk).2; omega
  · rcases hnew k hk with h1 | h1
    · exact h.xb k h1 hx
    · have := h.hX k hx; omega
theorem TrS.tri (h : TrS F X W T Vi Vb xs) : ∃ Ai ni ci Ab nb cb, Vi = .slice Ai ni ci ∧ Vb = .slice Ab nb cb ∧ ni ≤ ci ∧ nb ≤ cb ∧ Tri W W.heap.size Ai ni Ab nb T := by
  have hi : ∃ Ai ni ci, Vi = .slice Ai ni ci ∧ ni ≤ ci ∧ Ints W W.heap.size Ai ni T.ix := by
    have hr := h.ri
    rcases hr.2 with ⟨rfl, h0⟩ | ⟨g, cap, cur, rfl, hb, hg, hc, _⟩
    · refine ⟨none, 0, 0, rfl, Nat.le_refl _, ?_⟩
      have : T.ix = [] := List.eq_nil_of_length_eq_zero h0
      rw [this]; exact Ints.nil _ _ _
    · exact ⟨_, _, _, rfl, hc, Ints.of_own (c := cap) hr⟩
  obtain ⟨Ai, ni, ci, e1, k1, q1⟩ := hi
  have hb : ∃ Ab nb cb, Vb = .slice Ab nb cb ∧ nb ≤ cb ∧ Intss W W.heap.size Ab nb T.bl := by
    have hr := h.rb
    rcases hr.2 with ⟨rfl, h0⟩ | ⟨g, cap, cur, rfl, hb, hg, hc, _, _, ht⟩
    · refine ⟨none, 0, 0, rfl, Nat.le_refl _, ?_⟩
      have : T.bl = [] := List.eq_nil_of_length_eq_zero h0
      rw [this]; exact Intss.nil _ _ _
    · refine ⟨_, _, _, rfl, hc, rfl, fun _ => ⟨g, 0, rfl, (Array.getElem?_eq_some_iff.1 hg).1, fun j hj => ?_⟩⟩
      obtain ⟨q, c', e, hc', _, _, _, hi'⟩ := h.iv.2 j hj
      refine ⟨_, _, c', ?_, hi', hc'⟩
      rw [cell_blk hg, Nat.zero_add]
      rw [← ht, List.getElem?_take] at e
      split at e
      · simpa using e
      · cases e
  obtain ⟨Ab, nb, cb, e2, k2, q2⟩ := hb
  exact ⟨Ai, ni, ci, Ab, nb, cb, e1, e2, k1, k2, q1, q2⟩
end

def kvL : List (List Int) → Nat → KB
  | [], _ => []
  | b :: t, i => (b, (i : Int)) :: kvL t (i + 1)
theorem kvL_val (x : List Int) : ∀ (bl : List (List Int)) (i : Nat), valB2 x (kvL bl i) = if x ∈ bl then some ((i + bl.idxOf x : Nat) : Int) else none
  | [], i => rfl
  | b :: t, i => by
    unfold kvL valB2
    by_cases h : x = b
    · subst h; simp
    · rw [if_neg h, kvL_val x t (i + 1)]
      have hb : (b == x) = false := by simpa using fun e => h e.symm
      by_cases hm : x ∈ t
      · rw [if_pos hm, if_pos (List.mem_cons_of_mem _ hm), List.idxOf_cons, hb]
        simp only [cond_false]
        congr 1; omega
      · rw [if_neg hm, if_neg (by simp [h, hm])]
theorem kvL_snoc (x : List Int) : ∀ (bl : List (List Int)) (i : Nat), kvL (bl ++ [x]) i = kvL bl i ++ [(x, ((i + bl.length : Nat) : Int))]
  | [], i => by simp [kvL]
  | b :: t, i => by
    rw [List.cons_append, kvL, kvL_snoc x t (i + 1), kvL, List.cons_append, List.length_cons]
    congr 4; omega
theorem kvL_mem : ∀ (bl : List (List Int)) (i : Nat), ∀ y ∈ kvL bl i, y.1 ∈ bl
  | [], _, y, h => by cases h
  | b :: t, i, y, h => by
    unfold kvL at h
    rcases List.mem_cons.1 h with rfl | h
    · exact List.mem_cons_self ..
    · exact List.mem_cons_of_mem _ (kvL_mem t (i + 1) y h)
end Go.Vir


namespace Go.Vir
open Go Go.RowKit Go.Proofs
attribute [local go_sem] Oper.semAt_some

theorem zint_info : (Tryz.prog.info? 3).map (fun i => (i.zero, i.size, i.bytes)) = some (some (.int .i64 0), 1, 8) := by kernel_rfl
theorem ints_info : (Tryz.prog.info? 24).map (fun i => (i.zero, i.size, i.bytes)) = some (some (.slice none 0 0), 1, 24) := by kernel_rfl
theorem Ints.cells {W : World} {B n : Nat} {A : Option Addr} {l : List Int} (h : Ints W B A n l) : ∀ ad, A = some ad → ∀ (j : Nat) (u : Value), (l.map intC)[j]? = some u → W.cell? (ad.add j) = some u := by
  intro ad hA j u hj
  have hjl : j < l.length := by have := (List.getElem?_eq_some_iff.1 hj).1; simpa using this
  obtain ⟨b, o, e, _, hc⟩ := h.at_ (by rw [← h.len]; omega)
  rw [hA] at e
  obtain rfl := Option.some.inj e
  have hadd : (Addr.add ⟨b, o, none⟩ j) = ⟨b, o + j, none⟩ := by
    unfold Addr.add
    split <;> simp_all
  rw [hadd, hc j hjl]
  rw [List.getElem?_map, List.getElem?_eq_getElem hjl] at hj
  exact hj
theorem ints_one (l : List Int) : ∀ u ∈ l.map intC, u.oneCell' = true := by
  intro u hu
  rw [List.mem_map] at hu
  obtain ⟨v, _, rfl⟩ := hu
  rfl

set_option maxRecDepth 100000 in
set_option maxHeartbeats 2000000 in
theorem clone_ints (ad : Addr) (n c : Nat) (l : List Int) (w : World) (hx : Ints w w.heap.size (some ad) n l) (hn : n ≤ 1000000) (h0 : 0 < n) :
    Calls Tryz.prog 66 #[.slice (some ad) n c] w fun e w' => ∃ g c', e = .returned (.slice (some ⟨g, 0, none⟩) n c') ∧ n ≤ c' ∧ w.heap.size ≤ g ∧ g < w'.heap.size ∧ Ints w' w'.heap.size (some ⟨g, 0, none⟩) n l ∧ Below w.heap.size w w' := by
  have q : ∀ (w : World) (a : Option Addr) (n c n' c' : Nat), (binOp .eql 24 (.slice a n c) (.slice none n' c')).run Tryz.prog w = .ok (.bool a.isNone) w := fun w a n c n' c' => Lib.run_eql_slice_nil w _ _ a n c n' c' Tryz.underlying24
  have hlen := hx.len
  obtain ⟨i0, hi0, hz0, hz1, hz2⟩ := info_parts zint_info
  have hcells := hx.cells ad rfl
  have hone := ints_one l
  have hvl : (l.map intC).length = n * 1 := by simp [hlen]
  have Hfin : Hid (∀ (v : Value) (w1 : World), w1.ownsRow w.heap.size 3 1 v n (l.map intC) → ∃ g c', v = .slice (some ⟨g, 0, none⟩) n c' ∧ n ≤ c' ∧ w.heap.size ≤ g ∧ g < w1.heap.size ∧ Ints w1 w1.heap.size (some ⟨g, 0, none⟩) n l) := Lib.hid fun v w1 hr => by
    rcases hr.2 with ⟨_, h⟩ | ⟨g, cap, cur, rfl, hb, hg, hc, _⟩
    · omega
    · exact ⟨g, cap, rfl, hc, hb, (Array.getElem?_eq_some_iff.1 hg).1, Ints.of_own (c := cap) hr⟩
  generalize l.map intC = vs at *
  have Hc := Lib.hid hcells
  have Hone := Lib.hid hone
  clear hx hlen hcells hone
  go_enter Tryz.func66, Tryz.ntmps66
  go_wp2_with (at_builtin; refine wpList_append_own _ rfl _ _ 24 rfl w.heap.size 3 i0 (.int .i64 0) 1 8 Tryz.underlying24 hi0 hz0 hz1 hz2 rfl (by decide) _ _ _ rfl (World.ownsRow_made w #[] 0 (Nat.le_refl _) (Nat.zero_le _) rfl) ad n c vs rfl ?qc1 ?qc2 ?qc3 ?qc4 ?qc5 ?qc6 ?_)
  case qc1 => exact hvl
  case qc2 =>
    intro j u hj
    exact Lib.cell?_alloc_some _ (Hc.out j u hj)
  case qc3 => exact Hone.out
  case qc4 => simp only [maxLen]; omega
  case qc5 => omega
  case qc6 => simp
  intro v' w1 hown hgrow hnil
  go_wp2_with fail
  go_ret
  obtain ⟨g, c', rfl, h1, h2, h3, h4⟩ := Hfin.out v' w1 (by simpa using hown)
  exact ⟨g, c', rfl, h1, h2, h3, h4, ((Below.refl _ w).alloc (Nat.le_refl _) _).grown hgrow (by simp) (by intro k hk; simp [Value.ownBlock] at hk; omega)⟩
end Go.Vir

