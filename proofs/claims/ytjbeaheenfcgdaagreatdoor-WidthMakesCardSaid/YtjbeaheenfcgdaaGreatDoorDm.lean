/- Joined texts: ErrP, PrE, TrH, TrI, WdJ, ShW, Rf3. -/
import Derived.Test.YtjbeaheenfcgdaaGreatDoorDb
import Derived.Test.YtjbeaheenfcgdaaGreatDoorDl
import Derived.Test.YtjbeaheenfcgdaaGreatDoorDg
import Derived.Test.YtjbeaheenfcgdaaGreatDoorDa
import Derived.Test.YtjbeaheenfcgdaaGreatDoorDf
import Derived.Test.YtjbeaheenfcgdaaGreatDoorDh
import Derived.Test.YtjbeaheenfcgdaaGreatDoorDe
import Derived.Test.YtjbeaheenfcgdaaGreatDoorDi
import Derived.BigQuiet
import Derived.Deep.QuietTactic
import Derived.RowKitTokens
namespace Go.Vir
open Go Go.RowKit Go.Proofs Go.Extern.Stop Go.Stop Go.Extern

theorem pw_valueOfP (t : Addr) (w : World) : (ReflectliteValue.unpack (.iface 132 (.pointer (some t)))).run Tryz.prog w
    = .ok (.agg #[.pointer (some ⟨12, 132, none⟩), .pointer (some ⟨w.heap.size, 0, none⟩), .int .u64 150]) (w.alloc (.cells #[.pointer (some t)] 132)) := by kernel_rfl
theorem pw_typeP (a : Addr) (w : World) : (ReflectliteValue.methodAny (ReflectliteValue.valueError "reflectlite.Value.Type" 0) (fun t _ _ _ => ReflectliteType.toType t) #[.agg #[.pointer (some ⟨12, 132, none⟩), .pointer (some a), .int .u64 150]]).run Tryz.prog w
    = .ok (.iface 233 (.agg #[.pointer (some ⟨12, 132, none⟩)])) w := by kernel_rfl
theorem pw_kindP (w : World) : ((ReflectliteType.abiMethod fun t => (fun a : Nat => Value.int IntKind.u8 (a : Int)) <$> Rtype.kind t) #[.pointer (some ⟨12, 132, none⟩)]).run Tryz.prog w = .ok (.int .u8 22) w := by kernel_rfl
theorem pw_kindS (w : World) : ((ReflectliteType.abiMethod fun t => (fun a : Nat => Value.int IntKind.u8 (a : Int)) <$> Rtype.kind t) #[.pointer (some ⟨12, 129, none⟩)]).run Tryz.prog w = .ok (.int .u8 25) w := by kernel_rfl
theorem pw_partsP (a : Addr) (w : World) : (ReflectliteValue.parts (.agg #[.pointer (some ⟨12, 132, none⟩), .pointer (some a), .int .u64 150])).run Tryz.prog w = .ok (some (132, a, 150)) w := by kernel_rfl
theorem pw_isNilP (a p : Addr) (W : World) (ha : W.cell? a = some (.pointer (some p))) :
    (ReflectliteValue.method (ReflectliteValue.valueError "reflectlite.Value.IsNil" 0) ReflectliteValue.isNil #[.agg #[.pointer (some ⟨12, 132, none⟩), .pointer (some a), .int .u64 150]]).run Tryz.prog W = .ok (.bool false) W := by
  rw [rlm]
  simp only [Sem.run_bind, pw_partsP, Result.andThen]
  simp [ReflectliteValue.isNil, loadVar, isAgg, underlying, Tryz.underlying132, ha, Result.andThen]
theorem pw_elemP (w : World) : (ReflectliteType.method ReflectliteType.elem #[.agg #[.pointer (some ⟨12, 132, none⟩)]]).run Tryz.prog w = .ok (.iface 233 (.agg #[.pointer (some ⟨12, 129, none⟩)])) w := by kernel_rfl
theorem pw_implS (w : World) : (ReflectliteType.relation "Implements" ReflectliteType.implements_ #[.agg #[.pointer (some ⟨12, 129, none⟩)], .iface 233 (.agg #[.pointer (some ⟨12, 67, none⟩)])]).run Tryz.prog w = .ok (.bool true) w := by kernel_rfl
theorem pw_typeOfS (v : Value) (w : World) : (ReflectliteType.typeOf #[.iface 129 v]).run Tryz.prog w = .ok (.iface 233 (.agg #[.pointer (some ⟨12, 129, none⟩)])) w := by kernel_rfl
theorem pw_assS (w : World) : (ReflectliteType.relation "AssignableTo" ReflectliteType.assignableTo #[.agg #[.pointer (some ⟨12, 129, none⟩)], .iface 233 (.agg #[.pointer (some ⟨12, 129, none⟩)])]).run Tryz.prog w = .ok (.bool true) w := by kernel_rfl
theorem pw_valueOfS (c0 c1 c2 : Value) (w : World) : (ReflectliteValue.unpack (.iface 129 (.agg #[c0, c1, c2]))).run Tryz.prog w
    = .ok (.agg #[.pointer (some ⟨12, 129, none⟩), .pointer (some ⟨w.heap.size, 0, none⟩), .int .u64 153]) (w.alloc (.cells #[c0, c1, c2] 129)) := by kernel_rfl
theorem pw_elemOfP (w : World) : (Rtype.elem? 132).run Tryz.prog w = .ok (some 129) w := by kernel_rfl
theorem pw_mkS (p : Addr) (w : World) : (ReflectliteValue.mk 129 p ReflectliteValue.flagAddr).run Tryz.prog w = .ok (.agg #[.pointer (some ⟨12, 129, none⟩), .pointer (some p), .int .u64 409]) w := by kernel_rfl
theorem pw_elemVP (a p : Addr) (W : World) (ha : W.cell? a = some (.pointer (some p))) :
    (ReflectliteValue.method (ReflectliteValue.valueError "reflectlite.Value.Elem" 0) ReflectliteValue.elem #[.agg #[.pointer (some ⟨12, 132, none⟩), .pointer (some a), .int .u64 150]]).run Tryz.prog W
      = .ok (.agg #[.pointer (some ⟨12, 129, none⟩), .pointer (some p), .int .u64 409]) W := by
  rw [rlm]
  simp only [Sem.run_bind, pw_partsP, Result.andThen]
  simp [ReflectliteValue.elem, loadVar, isAgg, underlying, Tryz.underlying132, ha, Result.andThen, pw_elemOfP, pw_mkS]
theorem pw_partsA (a : Addr) (w : World) : (ReflectliteValue.parts (.agg #[.pointer (some ⟨12, 129, none⟩), .pointer (some a), .int .u64 409])).run Tryz.prog w = .ok (some (129, a, 409)) w := by kernel_rfl
theorem pw_partsS (a : Addr) (w : World) : (ReflectliteValue.parts (.agg #[.pointer (some ⟨12, 129, none⟩), .pointer (some a), .int .u64 153])).run Tryz.prog w = .ok (some (129, a, 153)) w := by kernel_rfl
theorem pw_directS (w : World) : (Rtype.directlyAssignable 129 129).run Tryz.prog w = .ok true w := by kernel_rfl
theorem pw_sizeS (w : World) : (sizeOf 129).run Tryz.prog w = .ok 3 w := by kernel_rfl
theorem pw_aggS (w : World) : (isAgg 129).run Tryz.prog w = .ok true w := by kernel_rfl
theorem pw_setS (tb bb : Nat) (c0 c1 c2 o0 o1 o2 : Value) (W : World) (h0 : c0.oneCell' = true) (h1 : c1.oneCell' = true) (h2 : c2.oneCell' = true)
    (hb0 : W.cell? ⟨bb, 0, none⟩ = some c0) (hb1 : W.cell? ⟨bb, 1, none⟩ = some c1) (hb2 : W.cell? ⟨bb, 2, none⟩ = some c2)
    (ht0 : W.cell? ⟨tb, 0, none⟩ = some o0) (ht1 : W.cell? ⟨tb, 1, none⟩ = some o1) (ht2 : W.cell? ⟨tb, 2, none⟩ = some o2) (hf0 : W.frozen? ⟨tb, 0, none⟩ = false) (hf1 : W.frozen? ⟨tb, 1, none⟩ = false) (hf2 : W.frozen? ⟨tb, 2, none⟩ = false) :
    (ReflectliteValue.set #[.agg #[.pointer (some ⟨12, 129, none⟩), .pointer (some ⟨tb, 0, none⟩), .int .u64 409], .agg #[.pointer (some ⟨12, 129, none⟩), .pointer (some ⟨bb, 0, none⟩), .int .u64 153]]).run Tryz.prog W
      = .ok (.tuple #[]) (((W.setCell ⟨tb, 0, none⟩ c0).setCell ⟨tb, 1, none⟩ c1).setCell ⟨tb, 2, none⟩ c2) := by
  have e1 : (loadVar 129 ⟨bb, 0, none⟩).run Tryz.prog W = .ok (.agg #[c0, c1, c2]) W := by
    unfold loadVar
    simp only [Sem.run_bind, pw_aggS, pw_sizeS, Result.andThen, if_true]
    simp [Result.andThen, loadCells, loadCellsFrom, Addr.add, hb0, hb1, hb2]
  have hv : (Value.agg #[c0, c1, c2]).cells = #[c0, c1, c2] := rfl
  have g1 : (W.setCell ⟨tb, 0, none⟩ c0).cell? ⟨tb, 1, none⟩ = some o1 := by
    rw [World.cell?_setCell_other _ _ _ _ (by simp)]; exact ht1
  have k1 : (W.setCell ⟨tb, 0, none⟩ c0).frozen? ⟨tb, 1, none⟩ = false := by simp [hf1]
  have g2 : ((W.setCell ⟨tb, 0, none⟩ c0).setCell ⟨tb, 1, none⟩ c1).cell? ⟨tb, 2, none⟩ = some o2 := by
    rw [World.cell?_setCell_other _ _ _ _ (by simp), World.cell?_setCell_other _ _ _ _ (by simp)]; exact ht2
  have k2 : ((W.setCell ⟨tb, 0, none⟩ c0).setCell ⟨tb, 1, none⟩ c1).frozen? ⟨tb, 2, none⟩ = false := by simp [hf2]
  have e2 : (storeVar 129 ⟨tb, 0, none⟩ (.agg #[c0, c1, c2])).run Tryz.prog W = .ok () (((W.setCell ⟨tb, 0, none⟩ c0).setCell ⟨tb, 1, none⟩ c1).setCell ⟨tb, 2, none⟩ c2) := by
    unfold storeVar
    simp only [hv]
    simp only [Sem.run_bind, pw_sizeS, Result.andThen]
    simp only [storeCells, Addr.add, Sem.run_bind, List.size_toArray, List.length_cons, List.length_nil, ne_eq, not_true_eq_false, if_false, Sem.run_pure, Result.andThen]
    rw [run_store Tryz.prog W _ _ _ h0]
    simp only [↓reduceIte, Nat.one_ne_zero, ht0, hf0, Bool.false_eq_true, Nat.zero_add]
    rw [run_store Tryz.prog _ _ _ _ h1]
    simp only [↓reduceIte, Nat.reduceEqDiff, g1, k1, Bool.false_eq_true]
    rw [run_store Tryz.prog _ _ _ _ h2]
    simp [g2, k2]
  rw [rls]
  simp only [Sem.run_bind, pw_partsA, pw_partsS, Result.andThen]
  simp [ReflectliteValue.flagAddr, e1, e2, Result.andThen, pw_directS]
set_option maxHeartbeats 4000000 in
theorem prop_as_hit (c0 c1 c2 : Value) (tb : Nat) (o0 o1 o2 : Value) (w : World) (h0 : c0.oneCell' = true) (h1 : c1.oneCell' = true) (h2 : c2.oneCell' = true) (htl : tb < w.heap.size)
    (ht0 : w.cell? ⟨tb, 0, none⟩ = some o0) (ht1 : w.cell? ⟨tb, 1, none⟩ = some o1) (ht2 : w.cell? ⟨tb, 2, none⟩ = some o2) (hf0 : w.frozen? ⟨tb, 0, none⟩ = false) (hf1 : w.frozen? ⟨tb, 1, none⟩ = false) (hf2 : w.frozen? ⟨tb, 2, none⟩ = false) (vb : Nat) (hvb : vb < w.heap.size) (hv : w.cell? ⟨vb, 0, none⟩ = some (.pointer (some ⟨tb, 0, none⟩))) :
    Calls Tryz.prog 135 #[.iface 129 (.agg #[c0, c1, c2]), .iface 132 (.pointer (some ⟨tb, 0, none⟩)), .agg #[.pointer (some ⟨12, 132, none⟩), .pointer (some ⟨vb, 0, none⟩), .int .u64 150], .iface 233 (.agg #[.pointer (some ⟨12, 129, none⟩)])] w fun ev w' =>
      ev = .returned (.bool true) ∧ w'.cell? ⟨tb, 0, none⟩ = some c0 ∧ w'.cell? ⟨tb, 1, none⟩ = some c1 ∧ w'.cell? ⟨tb, 2, none⟩ = some c2 ∧ Below tb w w' := by
  have hTO := @run_callFunc_extern Tryz.prog 130 _ ReflectliteType.typeOf Tryz.func130 (by kernel_rfl) (by kernel_rfl) (by kernel_rfl) (by kernel_rfl)
  have hAT := @run_callFunc_extern Tryz.prog 272 _ (ReflectliteType.relation "AssignableTo" ReflectliteType.assignableTo) Tryz.func272 (by kernel_rfl) (by kernel_rfl) (by kernel_rfl) (by kernel_rfl)
  have hEl := @run_callFunc_extern Tryz.prog 164 _ (ReflectliteValue.method (ReflectliteValue.valueError "reflectlite.Value.Elem" 0) ReflectliteValue.elem) Tryz.func164 (by kernel_rfl) (by kernel_rfl) (by kernel_rfl) (by kernel_rfl)
  have hSe := @run_callFunc_extern Tryz.prog 165 _ ReflectliteValue.set Tryz.func165 (by kernel_rfl) (by kernel_rfl) (by kernel_rfl) (by kernel_rfl)
  have hVO := @run_callFunc_extern Tryz.prog 132 _ (fun args => ReflectliteValue.unpack (args.getD 0 (.tuple #[]))) Tryz.func132 (by kernel_rfl) (by kernel_rfl) (by kernel_rfl) (by kernel_rfl)
  have tO := pw_typeOfS
  have mA := cw_methodAssignableTo
  have aS := pw_assS
  have vS := pw_valueOfS
  have el : ∀ o, (ReflectliteValue.method (ReflectliteValue.valueError "reflectlite.Value.Elem" 0) ReflectliteValue.elem #[.agg #[.pointer (some ⟨12, 132, none⟩), .pointer (some ⟨vb, 0, none⟩), .int .u64 150]]).run Tryz.prog (w.alloc o)
      = .ok (.agg #[.pointer (some ⟨12, 129, none⟩), .pointer (some ⟨tb, 0, none⟩), .int .u64 409]) (w.alloc o) :=
    fun o => pw_elemVP _ _ _ ((World.cell?_alloc_lt _ _ _ hvb).trans hv)
  have st : ∀ o, (ReflectliteValue.set #[.agg #[.pointer (some ⟨12, 129, none⟩), .pointer (some ⟨tb, 0, none⟩), .int .u64 409], .agg #[.pointer (some ⟨12, 129, none⟩), .pointer (some ⟨w.heap.size + 1, 0, none⟩), .int .u64 153]]).run Tryz.prog ((w.alloc o).alloc (.cells #[c0, c1, c2] 129))
      = .ok (.tuple #[]) (((((w.alloc o).alloc (.cells #[c0, c1, c2] 129)).setCell ⟨tb, 0, none⟩ c0).setCell ⟨tb, 1, none⟩ c1).setCell ⟨tb, 2, none⟩ c2) := fun o => by
    have hb : ((w.alloc o).alloc (.cells #[c0, c1, c2] 129)).heap[w.heap.size + 1]? = some (.cells #[c0, c1, c2] 129 (0, 0)) := heap_new (by simp)
    exact pw_setS tb (w.heap.size + 1) c0 c1 c2 o0 o1 o2 _ h0 h1 h2 (cell_blk hb 0) (cell_blk hb 1) (cell_blk hb 2)
      (by rw [World.cell?_alloc_lt _ _ _ (by simp; omega), World.cell?_alloc_lt _ _ _ htl]; exact ht0) (by rw [World.cell?_alloc_lt _ _ _ (by simp; omega), World.cell?_alloc_lt _ _ _ htl]; exact ht1) (by rw [World.cell?_alloc_lt _ _ _ (by simp; omega), World.cell?_alloc_lt _ _ _ htl]; exact ht2)
      (by rw [World.frozen?_alloc_old _ _ _ (by simp; omega), World.frozen?_alloc_old _ _ _ (Nat.ne_of_lt htl)]; exact hf0) (by rw [World.frozen?_alloc_old _ _ _ (by simp; omega), World.frozen?_alloc_old _ _ _ (Nat.ne_of_lt htl)]; exact hf1) (by rw [World.frozen?_alloc_old _ _ _ (by simp; omega), World.frozen?_alloc_old _ _ _ (Nat.ne_of_lt htl)]; exact hf2)
  go_enter Tryz.func135, Tryz.ntmps135
  go_wp2
  refine wp_loop_rounds 1 ?_
  rw [rounds_succ]
  go_wp2
  go_ret
  refine ⟨rfl, ?_, ?_, ?_, ?_⟩
  · rw [World.cell?_alloc_lt _ _ _ (by simp; omega), World.cell?_alloc_lt _ _ _ (by simp; omega), World.cell?_setCell_other _ _ _ _ (by simp), World.cell?_setCell_other _ _ _ _ (by simp), World.cell?_setCell_same' _ _ _ (by simp [ht0])]
  · rw [World.cell?_alloc_lt _ _ _ (by simp; omega), World.cell?_alloc_lt _ _ _ (by simp; omega), World.cell?_setCell_other _ _ _ _ (by simp), World.cell?_setCell_same' _ _ _ (by rw [World.cell?_setCell_other _ _ _ _ (by simp)]; simp [ht1])]
  · rw [World.cell?_alloc_lt _ _ _ (by simp; omega), World.cell?_alloc_lt _ _ _ (by simp; omega), World.cell?_setCell_same' _ _ _ (by rw [World.cell?_setCell_other _ _ _ _ (by simp), World.cell?_setCell_other _ _ _ _ (by simp)]; simp [ht2])]
  · go_grown

set_option maxHeartbeats 4000000 in
theorem prop_as (c0 c1 c2 : Value) (tb : Nat) (o0 o1 o2 : Value) (w : World) (h0 : c0.oneCell' = true) (h1 : c1.oneCell' = true) (h2 : c2.oneCell' = true) (htl : tb < w.heap.size)
    (hg : w.cell? ⟨7, 0, none⟩ = some (.iface 233 (.agg #[.pointer (some ⟨12, 67, none⟩)]))) (hgl : 7 < w.heap.size)
    (ht0 : w.cell? ⟨tb, 0, none⟩ = some o0) (ht1 : w.cell? ⟨tb, 1, none⟩ = some o1) (ht2 : w.cell? ⟨tb, 2, none⟩ = some o2) (hf0 : w.frozen? ⟨tb, 0, none⟩ = false) (hf1 : w.frozen? ⟨tb, 1, none⟩ = false) (hf2 : w.frozen? ⟨tb, 2, none⟩ = false) :
    Calls Tryz.prog 87 #[.iface 129 (.agg #[c0, c1, c2]), .iface 132 (.pointer (some ⟨tb, 0, none⟩))] w fun ev w' =>
      ev = .returned (.bool true) ∧ w'.cell? ⟨tb, 0, none⟩ = some c0 ∧ w'.cell? ⟨tb, 1, none⟩ = some c1 ∧ w'.cell? ⟨tb, 2, none⟩ = some c2 ∧ Below tb w w' := by
  have h6 := @run_callFunc_extern Tryz.prog 132 _ (fun args => ReflectliteValue.unpack (args.getD 0 (.tuple #[]))) Tryz.func132 (by kernel_rfl) (by kernel_rfl) (by kernel_rfl) (by kernel_rfl)
  have h7 := @run_callFunc_extern Tryz.prog 133 _ (ReflectliteValue.methodAny (ReflectliteValue.valueError "reflectlite.Value.Type" 0) (fun t _ _ _ => ReflectliteType.toType t)) Tryz.func133 (by kernel_rfl) (by kernel_rfl) (by kernel_rfl) (by kernel_rfl)
  have h8 := @run_callFunc_extern Tryz.prog 134 _ (ReflectliteValue.method (ReflectliteValue.valueError "reflectlite.Value.IsNil" 0) ReflectliteValue.isNil) Tryz.func134 (by kernel_rfl) (by kernel_rfl) (by kernel_rfl) (by kernel_rfl)
  have h27 := @run_callFunc_extern Tryz.prog 260 _ (ReflectliteType.abiMethod fun t => do pure (.int .u8 (← Rtype.kind t))) Tryz.func260 (by kernel_rfl) (by kernel_rfl) (by kernel_rfl) (by kernel_rfl)
  have h37 := @run_callFunc_extern Tryz.prog 274 _ (ReflectliteType.method ReflectliteType.elem) Tryz.func274 (by kernel_rfl) (by kernel_rfl) (by kernel_rfl) (by kernel_rfl)
  have h38 := @run_callFunc_extern Tryz.prog 275 _ (ReflectliteType.relation "Implements" ReflectliteType.implements_) Tryz.func275 (by kernel_rfl) (by kernel_rfl) (by kernel_rfl) (by kernel_rfl)
  have f6 := pw_valueOfP
  have f7 := pw_typeP
  have mK := cw_methodKind
  have mE := cw_methodElem
  have mI := cw_methodImplements
  have kP := pw_kindP
  have kS := pw_kindS
  have eP := pw_elemP
  have iS := pw_implS
  have n8 : ∀ o, (ReflectliteValue.method (ReflectliteValue.valueError "reflectlite.Value.IsNil" 0) ReflectliteValue.isNil #[.agg #[.pointer (some ⟨12, 132, none⟩), .pointer (some ⟨w.heap.size, 0, none⟩), .int .u64 150]]).run Tryz.prog ((w.alloc (.cells #[.pointer (some ⟨tb, 0, none⟩)] 132)).alloc o) = .ok (.bool false) ((w.alloc (.cells #[.pointer (some ⟨tb, 0, none⟩)] 132)).alloc o) := fun o =>
    pw_isNilP _ ⟨tb, 0, none⟩ _ (cell_blk ((heap_old (by simp)).trans (heap_new rfl)) 0)
  have hc := fun W q1 q2 q3 q4 q5 q6 q7 q8 q9 => prop_as_hit c0 c1 c2 tb o0 o1 o2 W h0 h1 h2 q1 q2 q3 q4 q5 q6 q7 w.heap.size q8 q9
  have Hc := Lib.hid hc
  clear hc
  go_enter Tryz.func87, Tryz.ntmps87
  go_wp2_with (go_at_call 135; refine (Hc.out _ (by simp; omega) ((World.cell?_of_block (Below.block (B := w.heap.size) (by go_grown) _ htl)).trans ht0) ((World.cell?_of_block (Below.block (B := w.heap.size) (by go_grown) _ htl)).trans ht1) ((World.cell?_of_block (Below.block (B := w.heap.size) (by go_grown) _ htl)).trans ht2) ((frozen_of_block (Below.block (B := w.heap.size) (by go_grown) _ htl)).trans hf0) ((frozen_of_block (Below.block (B := w.heap.size) (by go_grown) _ htl)).trans hf1) ((frozen_of_block (Below.block (B := w.heap.size) (by go_grown) _ htl)).trans hf2) (by simp; omega) (cell_blk (cs := #[.pointer (some ⟨tb, 0, none⟩)]) (t := 132) (m := (0, 0)) (by simp (disch := (first | omega | (simp only [World.size_alloc]; omega))) only [heap_new, heap_old]) 0)).mono ?_; rintro ev w1 ⟨rfl, hr0, hr1, hr2, hr9⟩)
  go_ret
  exact ⟨rfl, hr0, hr1, hr2, Below.trans (by go_grown) hr9⟩

end Go.Vir


namespace Go.Vir
open Go Go.RowKit Go.Proofs Go.Shelf Go.Extern.Stop Go.Stop Go.Extern
attribute [local go_sem] Oper.semAt_some

theorem pw_noIs (v : Value) (xT : TypeId) (w : World) : (Instr.typeAssert (.iface 129 v) xT 235 true).run Tryz.prog w = .ok (.tuple #[.nilIface, .bool false]) w := run_typeAssert_lacksB Tryz.underlying235 (by kernel_rfl) (by kernel_rfl) v xT w
theorem pw_hasUnwrap (v : Value) (xT : TypeId) (w : World) : (Instr.typeAssert (.iface 129 v) xT 238 true).run Tryz.prog w = .ok (.tuple #[.iface 129 v, .bool true]) w := run_typeAssert_hasB Tryz.underlying238 (by kernel_rfl) v xT w
theorem pw_methodUnwrap (v : Value) (w : World) : (Go.method 455 129 v "Unwrap").run Tryz.prog w = .ok (264, v) w := by kernel_rfl

set_option maxHeartbeats 4000000 in
theorem is_wrapped (c0 c1 : Int) (a : Addr) (w : World) :
    Calls Tryz.prog 86 #[.iface 129 (.agg #[.int .i64 c0, .int .i64 c1, .iface 324 (.pointer (some a))]), .iface 324 (.pointer (some a))] w fun e w' => e = .returned (.bool true) ∧ Below w.heap.size w w' := by
  obtain ⟨i, hi, hcmp⟩ := Option.map_eq_some_iff.1 is_comp
  obtain ⟨j, hj, hjs⟩ := Option.map_eq_some_iff.1 is_size
  have h8 := @run_callFunc_extern Tryz.prog 130 _ ReflectliteType.typeOf Tryz.func130 (by kernel_rfl) (by kernel_rfl) (by kernel_rfl) (by kernel_rfl)
  have h32 := @run_callFunc_extern Tryz.prog 273 _ cmpM Tryz.func273 (by kernel_rfl) (by kernel_rfl) (by kernel_rfl) (by kernel_rfl)
  have tT := is_typeOf
  have cT := is_comparable
  have mR := is_methodComparable
  have nI := pw_noIs
  have hU := pw_hasUnwrap
  have mU := pw_methodUnwrap
  have hty := fun v W => run_eql_iface_types (P := Tryz.prog) 129 324 v (.pointer (some a)) Tryz.underlying67 (by decide) W
  have heq := fun W => run_eql_iface_ptr_same (P := Tryz.prog) W a Tryz.underlying67 Tryz.underlying324 hi hcmp hj
  go_enter Tryz.func86, Tryz.ntmps86
  go_wp2
  refine wp_loop_rounds 2 ?_
  rw [rounds_succ]
  go_wp2
  rw [rounds_succ]
  go_wp2
  go_ret
  exact ⟨rfl, by go_grown⟩

set_option maxHeartbeats 4000000 in
theorem prop_told (ln cd : Int) (ep : Addr) (w : World) (hf : w.cell? ⟨1, 0, none⟩ = some (.iface 324 (.pointer (some ep)))) (hfl : 1 < w.heap.size)
    (hg : w.cell? ⟨7, 0, none⟩ = some (.iface 233 (.agg #[.pointer (some ⟨12, 67, none⟩)]))) (hgl : 7 < w.heap.size) :
    Calls Tryz.prog 47 #[errP (.iface 324 (.pointer (some ep))) ln cd] w fun ev w' => ev = .returned (.tuple #[.int .i64 ln, .int .i64 cd]) ∧ Below w.heap.size w w' := by
  have hb : (w.alloc (.cells #[.int .i64 0, .int .i64 0, .nilIface] 129)).heap[w.heap.size]? = some (.cells #[.int .i64 0, .int .i64 0, .nilIface] 129 (0, 0)) := heap_new rfl
  have hbA : Below w.heap.size w (w.alloc (.cells #[.int .i64 0, .int .i64 0, .nilIface] 129)) := by go_grown
  have hIs := is_wrapped ln cd ep (w.alloc (.cells #[.int .i64 0, .int .i64 0, .nilIface] 129))
  have hAs := fun (W : World) (hW : Below (w.heap.size + 1) (w.alloc (.cells #[.int .i64 0, .int .i64 0, .nilIface] 129)) W) =>
    prop_as (.int .i64 ln) (.int .i64 cd) (.iface 324 (.pointer (some ep))) w.heap.size (.int .i64 0) (.int .i64 0) .nilIface W rfl rfl rfl (by have := hW.size; simp at this; omega)
      ((cellOf hW (by omega)).trans ((cellOf hbA hgl).trans hg)) (by have := hW.size; simp at this; omega) (cell_blk ((hW.block _ (by omega)).trans hb) 0) (cell_blk ((hW.block _ (by omega)).trans hb) 1) (cell_blk ((hW.block _ (by omega)).trans hb) 2)
      (frozen_blk ((hW.block _ (by omega)).trans hb) 0) (frozen_blk ((hW.block _ (by omega)).trans hb) 1) (frozen_blk ((hW.block _ (by omega)).trans hb) 2)
  have hf1 := (cellOf hbA hfl).trans hf
  rw [World.size_alloc] at hIs
  have HIs := Lib.hid hIs
  have HAs := Lib.hid hAs
  clear hIs hAs hg hb hf
  unfold errP
  go_enter Tryz.func47, Tryz.ntmps47
  go_wp2_with fail
  refine HIs.out.mono ?_
  rintro e w1 ⟨rfl, hb1⟩
  have hbw1 := hbA.trans (hb1.mono (by omega))
  go_wp2_with fail
  refine (HAs.out w1 hb1).mono ?_
  rintro e w2 ⟨rfl, h0, h1, h2, hb2⟩
  have hbw2 := hbw1.trans hb2
  go_upto_region 3 with fail
  go_quiet (fail)
  go_wp2
  go_ret2
  exact ⟨rfl, hbw2.trans (Below.mono (below_drewN w2.heap.size _ _) hbw2.size)⟩

set_option maxHeartbeats 4000000 in
theorem prop_told_nil (ep : Addr) (w : World) (hf : w.cell? ⟨1, 0, none⟩ = some (.iface 324 (.pointer (some ep)))) (hfl : 1 < w.heap.size) :
    Calls Tryz.prog 47 #[.nilIface] w fun ev w' => ev = .returned (.tuple #[.int .i64 0, .int .i64 0]) ∧ Below w.heap.size w w' := by
  have hq : ∀ W : World, (binOp .eql 67 .nilIface (.iface 324 (.pointer (some ep)))).run Tryz.prog W = .ok (.bool false) W := fun W => run_eql_iface_nil_left _ _ _ Tryz.underlying67
  have hf1 : (w.alloc (.cells #[.int .i64 0, .int .i64 0, .nilIface] 129)).cell? ⟨1, 0, none⟩ = some (.iface 324 (.pointer (some ep))) := (World.cell?_alloc_lt _ _ _ hfl).trans hf
  clear hf
  go_enter Tryz.func47, Tryz.ntmps47
  go_wp2
  go_ret2
  exact ⟨rfl, by go_grown⟩

theorem read_line {s : List UInt8} {ss : List (List UInt8)} {k : Int} {loose : Bool} (h : (readB s ss k loose).2.2 = 0) : (readB s ss k loose).2.1 = 0 := by
  obtain ⟨_, _, _, out, _, he, _⟩ := read_ok h
  rw [he]

set_option maxHeartbeats 4000000 in
theorem prop_Read (A : Option Addr) (n c : Nat) (k : Int) (loose : Bool) (ss : List (List UInt8)) (s : List UInt8) (w : World) (hG : GlobP w) (hz : Strs w w.heap.size A n ss) (hn : n ≤ 1000000) (hs : ∀ x ∈ ss, x.length ≤ 1000000) (hl : s.length ≤ 20000) :
    Calls Tryz.prog 15 #[.string ⟨s.toArray⟩, .slice A n c, .int .i64 k, .bool loose] w fun e w' => ∃ A' n' c', e = .returned (.tuple #[.slice A' n' c', .int .i64 (readB s ss k loose).2.1, .int .i64 (readB s ss k loose).2.2]) ∧ n' ≤ c' ∧
      Rgs w' w'.heap.size A' n' (readB s ss k loose).1 ∧ Below w.heap.size w w' := by
  have hof := prop_of A n c ss w hn hz
  obtain ⟨ep, hef⟩ := hG.ef
  have hrd := fun (W : World) (hW : Below w.heap.size w W) (r ck : Nat) (es : Array MapEntry) (hr : W.heap[r]? = some (.map es ck)) (ha : Asc es (kvOf ss 0)) =>
    have hbA : Below W.heap.size W (W.alloc (.cells (rdCs A n c r k loose none 0 0) 75)) := by go_grown
    have hws := hW.size
    have hrl := (Array.getElem?_eq_some_iff.1 hr).1
    prop_read W.heap.size r ck n c A k loose es ss s ep (W.alloc (.cells (rdCs A n c r k loose none 0 0) 75)) (heap_new rfl) (Nat.lt_of_lt_of_le hG.elt hws) ((cellOf hbA (Nat.lt_of_lt_of_le hG.elt hws)).trans ((cellOf hW hG.elt).trans hef))
      ((hG.f.below hW).below hbA) (((hz.below hW).more hws).below hbA |>.more hbA.size) hn hs ((hbA.block r hrl).trans hr) ha hl
  have hG2 := hG
  have hbad := @read_bad s ss k loose
  have hline := @read_line s ss k loose
  generalize readB s ss k loose = rr at *
  have Hof := Lib.hid hof
  have Hrd := Lib.hid hrd
  have HG := Lib.hid hG2
  have Hef := Lib.hid hef
  have Hbad := Lib.hid hbad
  have Hline := Lib.hid hline
  clear hof hrd hG hG2 hef hz hs hbad hline
  go_enter Tryz.func15, Tryz.ntmps15
  go_wp2_with fail
  refine Hof.out.mono ?_
  rintro e w1 ⟨r, es, ck, rfl, hr, ha, hb1⟩
  have hrd := Hrd.out w1 hb1 r ck es hr ha
  have Hrd2 := Lib.hid hrd
  clear hrd hr ha
  unfold rdCs at Hrd2
  go_wp2_with fail
  refine Hrd2.out.mono ?_
  rintro e w2 ⟨he, hap⟩
  have hb2 : Below w.heap.size w w2 := hb1.trans (Below.mono (show Below w1.heap.size w1 w2 from
    (show Below w1.heap.size w1 (w1.alloc (.cells #[.slice A n c, .map (some r), .int .i64 k, .bool loose, .slice none 0 0] 75)) by go_grown).trans ⟨hap.os, hap.tape, hap.output, hap.size, fun k hk => hap.block k (by simp; omega) (by omega)⟩) hb1.size)
  have hG2 := HG.out.below hb2
  have hef2 := (cellOf hb2 HG.out.elt).trans Hef.out
  rcases he with ⟨h0, A', n', c', rfl, hnc, hrg⟩ | ⟨h0, rfl⟩
  · have htd := prop_told_nil ep w2 hef2 hG2.elt
    have hl0 := Hline.out h0
    have Htd := Lib.hid htd
    have Hrg := Lib.hid hrg
    have Hl0 := Lib.hid hl0
    have H0 := Lib.hid h0
    clear htd hrg hl0 h0 hap hef2
    go_wp2_with fail
    refine Htd.out.mono ?_
    rintro e w3 ⟨rfl, hb3⟩
    go_wp2_with fail
    go_ret3
    exact ⟨A', n', c', by rw [Hl0.out, H0.out]; rfl, hnc, (Hrg.out.below hb3).more hb3.size, hb2.trans (hb3.mono hb2.size)⟩
  · have htd := prop_told rr.2.1 rr.2.2 ep w2 hef2 hG2.elt hG2.f.typ hG2.f.tlt
    have hl0 := Hbad.out h0
    have Htd := Lib.hid htd
    have Hl0 := Lib.hid hl0
    clear htd hl0 h0 hap hef2
    go_wp2_with fail
    refine Htd.out.mono ?_
    rintro e w3 ⟨rfl, hb3⟩
    go_wp2_with fail
    go_ret3
    exact ⟨none, 0, 0, rfl, Nat.le_refl _, by rw [Hl0.out]; exact Rgs.nil _ _ _, hb2.trans (hb3.mono hb2.size)⟩

end Go.Vir


namespace Go.Vir
open Go Go.RowKit Go.Proofs
attribute [local go_sem] Oper.semAt_some

def atR (l : List Rg) (i : Nat) : Nat := (l.takeWhile fun x => decide (x.t < ((i * 256 : Nat) : Int))).length
def endR (l : List Rg) (i : Nat) : Nat := atR l i + ((l.drop (atR l i)).takeWhile fun x => decide (x.f ≤ ((i * 256 + 255 : Nat) : Int))).length
theorem atR_le (l : List Rg) (i : Nat) : atR l i ≤ l.length := (List.takeWhile_prefix _).length_le
theorem endR_le (l : List Rg) (i : Nat) : endR l i ≤ l.length := by
  have h1 := atR_le l i
  have h2 := (List.takeWhile_prefix (fun x : Rg => decide (x.f ≤ ((i * 256 + 255 : Nat) : Int))) (l := l.drop (atR l i))).length_le
  rw [List.length_drop] at h2
  unfold endR
  omega
theorem tw_mono {α : Type} {p q : α → Bool} (h : ∀ x, p x = true → q x = true) : ∀ l : List α, (l.takeWhile p).length ≤ (l.takeWhile q).length
  | [] => Nat.le_refl _
  | x :: l => by
    rw [List.takeWhile_cons, List.takeWhile_cons]
    split
    · rename_i hp
      rw [if_pos (h x hp)]
      simp only [List.length_cons]
      have := tw_mono h l; omega
    · exact Nat.zero_le _
set_option maxRecDepth 10000 in
theorem atR_mono (l : List Rg) {i j : Nat} (h : i ≤ j) : atR l i ≤ atR l j :=
  tw_mono (fun x hx => decide_eq_true (by have h1 := of_decide_eq_true hx; have h2 : i * 256 ≤ j * 256 := Nat.mul_le_mul_right 256 h; omega)) l
theorem atR_lt {l : List Rg} {i k : Nat} (h : k < atR l i) : ∃ hk : k < l.length, l[k].t < ((i * 256 : Nat) : Int) := by
  obtain ⟨h1, h2⟩ := takeWhile_get (fun x : Rg => decide (x.t < ((i * 256 : Nat) : Int))) l k h
  exact ⟨h1, of_decide_eq_true h2⟩
theorem atR_stop {l : List Rg} {i : Nat} (h : atR l i < l.length) : ¬ l[atR l i].t < ((i * 256 : Nat) : Int) := by
  exact of_decide_eq_false (takeWhile_stop (fun x : Rg => decide (x.t < ((i * 256 : Nat) : Int))) l h)
theorem endR_lt {l : List Rg} {i k : Nat} (h0 : atR l i ≤ k) (h : k < endR l i) : ∃ hk : k < l.length, l[k].f ≤ ((i * 256 + 255 : Nat) : Int) := by
  obtain ⟨h1, h2⟩ := takeWhile_get (fun x : Rg => decide (x.f ≤ ((i * 256 + 255 : Nat) : Int))) (l.drop (atR l i)) (k - atR l i) (by unfold endR at h; omega)
  simp only [List.length_drop] at h1
  refine ⟨by omega, ?_⟩
  have h3 := of_decide_eq_true h2
  rw [List.getElem_drop] at h3
  have e : atR l i + (k - atR l i) = k := by omega
  simp only [e] at h3
  exact h3
theorem endR_stop {l : List Rg} {i : Nat} (h : endR l i < l.length) : ¬ l[endR l i].f ≤ ((i * 256 + 255 : Nat) : Int) := by
  have h2 := takeWhile_stop (fun x : Rg => decide (x.f ≤ ((i * 256 + 255 : Nat) : Int))) (l.drop (atR l i)) (by rw [List.length_drop]; unfold endR at h; omega)
  have h3 := of_decide_eq_false h2
  rw [List.getElem_drop] at h3
  exact h3
theorem rise_sorted : ∀ {l : List Rg} {a : Int}, riseR a l = true → ∀ {i j : Nat} (h : i ≤ j) (hj : j < l.length), (l[i]'(by omega)).f ≤ l[j].f
  | [], _, _, _, _, _, hj => absurd hj (by simp)
  | x :: l, a, h, 0, 0, _, _ => Int.le_refl _
  | x :: l, a, h, 0, j + 1, _, hj => by
    simp only [riseR, Bool.and_eq_true, decide_eq_true_eq] at h
    have h1 := (rise_one h.2.2 _ (List.getElem_mem (show j < l.length by simpa using hj))).2
    have h2 := oneR_iff.1 h.1
    simp only [List.getElem_cons_zero, List.getElem_cons_succ]
    omega
  | x :: l, a, h, i + 1, j + 1, hij, hj => by
    simp only [riseR, Bool.and_eq_true, decide_eq_true_eq] at h
    simp only [List.getElem_cons_succ]
    exact rise_sorted h.2.2 (by omega) (by simpa using hj)
theorem row_says {l : List Rg} (h : riseR (-1) l = true) (i : Nat) : blockT ((l.drop (atR l i)).take (endR l i - atR l i)) i = blockT l i := by
  unfold blockT
  apply List.map_congr_left
  intro j hj
  have hj2 : j < 256 := by simpa using hj
  have hle := endR_le l i
  have hae : atR l i ≤ endR l i := by unfold endR; omega
  have e : l = l.take (atR l i) ++ ((l.drop (atR l i)).take (endR l i - atR l i) ++ l.drop (endR l i)) := by
    have e2 : l.drop (endR l i) = (l.drop (atR l i)).drop (endR l i - atR l i) := by rw [List.drop_drop]; congr 1; omega
    rw [e2, List.take_append_drop, List.take_append_drop]
  conv => rhs; rw [e]
  rw [say_mid]
  · intro x hx hc
    rw [List.mem_iff_getElem] at hx
    obtain ⟨k, hk, rfl⟩ := hx
    rw [List.length_take] at hk
    rw [List.getElem_take] at hc
    obtain ⟨_, h2⟩ := atR_lt (l := l) (i := i) (k := k) (by omega)
    omega
  · intro x hx hc
    rw [List.mem_iff_getElem] at hx
    obtain ⟨k, hk, rfl⟩ := hx
    rw [List.length_drop] at hk
    rw [List.getElem_drop] at hc
    have hs := endR_stop (l := l) (i := i) (by omega)
    have hmono : l[endR l i].f ≤ (l[endR l i + k]'(by omega)).f := rise_sorted h (by omega) (by omega)
    omega

theorem rows_make (A : Option Addr) (n c : Nat) (w : World) : Calls Tryz.prog 99 #[.slice A n c] w fun e w' => e = .returned (.func (.func 140) #[] #[.pointer (some ⟨w.heap.size, 0, none⟩)]) ∧ w.alloc (.cells #[.slice A n c] 26) = w' := by
  go_enter Tryz.func99, Tryz.ntmps99
  go_wp2
  go_ret
  exact ⟨rfl, rfl⟩
def rowV (A : Option Addr) (l : List Rg) (i : Nat) : Value := .slice (if endR l i = atR l i then A else A.map (·.add (atR l i * 3))) (endR l i - atR l i) (endR l i - atR l i)

set_option maxRecDepth 100000 in
set_option maxHeartbeats 4000000 in
theorem rows_iter (B0 b : Nat) (A : Option Addr) (n c : Nat) (l : List Rg) (W0 : World) (hb : B0 ≤ b) (hsz : b < W0.heap.size) (hn : n ≤ 1000000) (hnc : n ≤ c) (_hl : riseR (-1) l = true)
    (c0 : W0.heap[b]? = some (.cells #[.slice A n c] 26 (0, 0))) (hz : Rgs W0 B0 A n l) :
    Iter Tryz.prog 140 #[.pointer (some ⟨b, 0, none⟩)] 4352 (fun i => #[.int .i64 (i : Int), rowV A l i]) (fun k => k = b) B0 W0 := by
  rcases Nat.eq_zero_or_pos n with hn0 | hn0
  · intro lp J Jx W hW hJ hJx hY h0
    have hlen := hz.len
    have HY := Lib.hid hY
    have HJ := Lib.hid hJ
    clear hY hJ
    have hd0 := (hW.block b hsz).trans c0
    have hlow := fun k (hk : k < B0) => hW.block k (show k < W0.heap.size by omega)
    refine callsIn_wide.2 ?_
    go_enter Tryz.func140, Tryz.ntmps140
    go_step3
    go_wp2
    go_step3
    go_wp2
    go_loopw [3, 8] (fun t3 t8 wr => ∃ i a : Nat, i ≤ 4352 ∧ a ≤ atR l i ∧ t3 = .int .i64 (a : Int) ∧ t8 = .int .i64 (i : Int) ∧ J i wr ∧ wr.heap[b]? = some (.cells #[.slice A n c] 26 (0, 0)) ∧ (∀ k, k < B0 → wr.heap[k]? = W0.heap[k]?)) (fun _ t8 _ => 4352 - (RowKit.intOf t8).toNat)
    case atStart => exact ⟨0, 0, Nat.zero_le _, Nat.zero_le _, rfl, rfl, h0, hd0, hlow⟩
    case round =>
      obtain ⟨i, a, hi, ha, rfl, rfl, hJi, d0, hlw⟩ := hrel
      obtain ⟨wo, hwo⟩ : ∃ wo, wo = wr := ⟨_, rfl⟩
      subst hwo
      have e0 : wo.cell? ⟨b, 0, none⟩ = some (.slice A n c) := cell_blk d0 0
      have Hw := Lib.hid (And.intro hJi (And.intro d0 hlw))
      have hal := atR_le l i
      have hel := endR_le l i
      have hae : atR l i ≤ endR l i := by unfold endR; omega
      clear hJi d0 hlw hd0 hlow h0
      rcases Nat.lt_or_ge i 4352 with hlt | hge
      · have hdec : decide ((i : Int) < 4352) = true := decide_eq_true (by omega)
        go_wp2_with fail
        go_loopw [3] (fun t3 wr => ∃ k : Nat, k ≤ atR l i ∧ t3 = .int .i64 (k : Int) ∧ wr = wo) (fun t3 _ => n - (RowKit.intOf t3).toNat)
        case atStart => exact ⟨a, ha, rfl, rfl⟩
        case round =>
          obtain ⟨k, hk, rfl, hwe⟩ := hrel
          subst hwe
          obtain rfl : k = atR l i := by omega
          obtain ⟨wp, hwp⟩ : ∃ wp, wp = wr := ⟨_, rfl⟩
          subst hwp
          have hdn : decide (atR l i < n) = false := decide_eq_false (by omega)
          go_wp2_with fail
          clear hdn
          go_loopw [7] (fun t7 wr => ∃ e : Nat, atR l i ≤ e ∧ e ≤ endR l i ∧ t7 = .int .i64 (e : Int) ∧ wr = wp) (fun t7 _ => n - (RowKit.intOf t7).toNat)
          case atStart => exact ⟨atR l i, Nat.le_refl _, hae, rfl, rfl⟩
          case round =>
            obtain ⟨e, he1, he2, rfl, hwe⟩ := hrel
            subst hwe
            obtain rfl : e = endR l i := by omega
            have hdn : decide (endR l i < n) = false := decide_eq_false (by omega)
            have hv : rowV A l i = .slice A (endR l i - atR l i) (endR l i - atR l i) := by unfold rowV; rw [if_pos (by omega)]
            have hy := HY.out i wr (by omega) Hw.out.1
            rw [hv] at hy
            obtain ⟨fn, tmps, assign, body, hy, hR⟩ := hy
            clear hv
            go_upto_region 10 with fail
            refine (wpIn_wide (n := 0)).1 ?_
            gi_wp2
            refine ⟨rfl, hR.mono ?_⟩
            rintro e W' (⟨rfl, hJ', hk'⟩ | ⟨rfl, hJx'⟩)
            · have d0' : W'.heap[b]? = some (.cells #[.slice A n c] 26 (0, 0)) := (hk'.own _ rfl).trans Hw.out.2.1
              have hlw' : ∀ k, k < B0 → W'.heap[k]? = W0.heap[k]? := fun k hk => (hk'.low k hk).trans (Hw.out.2.2 k hk)
              have hmono := atR_mono l (Nat.le_succ i)
              have Hn := Lib.hid (And.intro hJ' (And.intro d0' (And.intro hlw' hmono)))
              clear hJ' hk' d0' hlw' hmono
              gi_wp2
              go_wp2
              go_roundw
              case rel => exact ⟨i + 1, atR l i, by omega, Hn.out.2.2.2, rfl, by go_num, Hn.out.1, Hn.out.2.1, Hn.out.2.2.1⟩
              case measure => simp [RowKit.intOf]; omega
            · gi_wp2
              go_wp2
              simp only [Exit.noGoto]
              go_end0
              exact ⟨⟨_, rfl⟩, .inr ⟨i, by omega, hJx'⟩⟩
      · obtain rfl : i = 4352 := by omega
        have hdec : decide (((4352 : Nat) : Int) < 4352) = false := rfl
        go_wp2_with fail
        simp only [Exit.noGoto]
        go_end0
        exact ⟨⟨_, rfl⟩, .inl Hw.out.1⟩
  · obtain ⟨zb, zo, rfl, hzb, hzc⟩ := hz.at_ hn0
    intro lp J Jx W hW hJ hJx hY h0
    have hlen := hz.len
    have HY := Lib.hid hY
    have HJ := Lib.hid hJ
    clear hY hJ
    have hd0 := (hW.block b hsz).trans c0
    have hlow := fun k (hk : k < B0) => hW.block k (show k < W0.heap.size by omega)
    refine callsIn_wide.2 ?_
    go_enter Tryz.func140, Tryz.ntmps140
    go_step3
    go_wp2
    go_step3
    go_wp2
    go_loopw [3, 8] (fun t3 t8 wr => ∃ i a : Nat, i ≤ 4352 ∧ a ≤ atR l i ∧ t3 = .int .i64 (a : Int) ∧ t8 = .int .i64 (i : Int) ∧ J i wr ∧ wr.heap[b]? = some (.cells #[.slice (some ⟨zb, zo, none⟩) n c] 26 (0, 0)) ∧ (∀ k, k < B0 → wr.heap[k]? = W0.heap[k]?)) (fun _ t8 _ => 4352 - (RowKit.intOf t8).toNat)
    case atStart => exact ⟨0, 0, Nat.zero_le _, Nat.zero_le _, rfl, rfl, h0, hd0, hlow⟩
    case round =>
      obtain ⟨i, a, hi, ha, rfl, rfl, hJi, d0, hlw⟩ := hrel
      obtain ⟨wo, hwo⟩ : ∃ wo, wo = wr := ⟨_, rfl⟩
      subst hwo
      have e0 : wo.cell? ⟨b, 0, none⟩ = some (.slice (some ⟨zb, zo, none⟩) n c) := cell_blk d0 0
      have Hw := Lib.hid (And.intro hJi (And.intro d0 hlw))
      have hal := atR_le l i
      have hel := endR_le l i
      have hae : atR l i ≤ endR l i := by unfold endR; omega
      have hcell : ∀ k, k < n → ∀ h : k < l.length, wo.cell? ⟨zb, zo + k * 3, none⟩ = some (.int .i64 l[k].f) ∧ wo.cell? ⟨zb, zo + k * 3 + 1, none⟩ = some (.int .i64 l[k].t) := fun k hk h =>
        ⟨(World.cell?_of_block (hlw zb hzb)).trans (hzc k h).1, (World.cell?_of_block (hlw zb hzb)).trans (hzc k h).2.1⟩
      have Hcell := Lib.hid hcell
      clear hcell
      clear hJi d0 hlw hd0 hlow h0
      rcases Nat.lt_or_ge i 4352 with hlt | hge
      · have hdec : decide ((i : Int) < 4352) = true := decide_eq_true (by omega)
        go_wp2_with fail
        go_loopw [3] (fun t3 wr => ∃ k : Nat, k ≤ atR l i ∧ t3 = .int .i64 (k : Int) ∧ wr = wo) (fun t3 _ => n - (RowKit.intOf t3).toNat)
        case atStart => exact ⟨a, ha, rfl, rfl⟩
        case round =>
          obtain ⟨k, hk, rfl, hwe⟩ := hrel
          subst hwe
          rcases Nat.lt_or_ge k (atR l i) with hka | hka
          · obtain ⟨hkl, hkt⟩ := atR_lt hka
            have hkn : k < n := by omega
            obtain ⟨u1, u2⟩ := Hcell.out k hkn hkl
            generalize l[k] = x at *
            have hkt2 : x.t < (i : Int) * 256 := by omega
            clear hkt
            go_wp2_with fail
            go_roundw
            case rel => exact ⟨k + 1, by omega, by go_num, by first | trivial | rfl⟩
            case measure => simp [RowKit.intOf]; omega
          · obtain rfl : k = atR l i := by omega
            obtain ⟨wp, hwp⟩ : ∃ wp, wp = wr := ⟨_, rfl⟩
            subst hwp
            rcases Nat.lt_or_ge (atR l i) n with han | han
            · obtain ⟨u1, u2⟩ := Hcell.out (atR l i) han (by omega)
              have hs := atR_stop (l := l) (i := i) (by omega)
              generalize (l[atR l i]'(by omega)) = x at *
              have hs2 : ¬ x.t < (i : Int) * 256 := by omega
              clear hs
              go_wp2_with fail
              clear u1 u2 hs2
              go_loopw [7] (fun t7 wr => ∃ e : Nat, atR l i ≤ e ∧ e ≤ endR l i ∧ t7 = .int .i64 (e : Int) ∧ wr = wp) (fun t7 _ => n - (RowKit.intOf t7).toNat)
              case atStart => exact ⟨atR l i, Nat.le_refl _, hae, rfl, rfl⟩
              case round =>
                obtain ⟨e, he1, he2, rfl, hwe⟩ := hrel
                subst hwe
                rcases Nat.lt_or_ge e (endR l i) with hlt2 | hge2
                · obtain ⟨hkl, hkf⟩ := endR_lt he1 hlt2
                  have hkn : e < n := by omega
                  obtain ⟨u1, u2⟩ := Hcell.out e hkn hkl
                  generalize l[e] = x at *
                  have hkf2 : x.f ≤ ((i : Int) + 1) * 256 - 1 := by omega
                  clear hkf
                  go_wp2_with fail
                  go_roundw
                  case rel => exact ⟨e + 1, by omega, by omega, by go_num, by first | trivial | rfl⟩
                  case measure => simp [RowKit.intOf]; omega
                · obtain rfl : e = endR l i := by omega
                  rcases Nat.lt_or_ge (endR l i) n with hen | hen
                  · obtain ⟨u1, u2⟩ := Hcell.out (endR l i) hen (by omega)
                    have hs := endR_stop (l := l) (i := i) (by omega)
                    generalize (l[endR l i]'(by omega)) = x at *
                    have hs2 : ¬ x.f ≤ ((i : Int) + 1) * 256 - 1 := by omega
                    clear hs
                    rcases Nat.lt_or_ge (atR l i) (endR l i) with h | h
                    · have hv : rowV (some ⟨zb, zo, none⟩) l i = .slice (some ⟨zb, zo + atR l i * 3, none⟩) (endR l i - atR l i) (endR l i - atR l i) := by unfold rowV; rw [if_neg (by omega)]; simp [Addr.add]; try omega
                      have hy := HY.out i wr (by omega) Hw.out.1
                      rw [hv] at hy
                      obtain ⟨fn, tmps, assign, body, hy, hR⟩ := hy
                      clear hv
                      go_upto_region 10 with fail
                      refine (wpIn_wide (n := 0)).1 ?_
                      gi_wp2
                      refine ⟨rfl, hR.mono ?_⟩
                      rintro e W' (⟨rfl, hJ', hk'⟩ | ⟨rfl, hJx'⟩)
                      · have d0' : W'.heap[b]? = some (.cells #[.slice (some ⟨zb, zo, none⟩) n c] 26 (0, 0)) := (hk'.own _ rfl).trans Hw.out.2.1
                        have hlw' : ∀ k, k < B0 → W'.heap[k]? = W0.heap[k]? := fun k hk => (hk'.low k hk).trans (Hw.out.2.2 k hk)
                        have hmono := atR_mono l (Nat.le_succ i)
                        have Hn := Lib.hid (And.intro hJ' (And.intro d0' (And.intro hlw' hmono)))
                        clear hJ' hk' d0' hlw' hmono
                        gi_wp2
                        go_wp2
                        go_roundw
                        case rel => exact ⟨i + 1, atR l i, by omega, Hn.out.2.2.2, rfl, by go_num, Hn.out.1, Hn.out.2.1, Hn.out.2.2.1⟩
                        case measure => simp [RowKit.intOf]; omega
                      · gi_wp2
                        go_wp2
                        simp only [Exit.noGoto]
                        go_end0
                        exact ⟨⟨_, rfl⟩, .inr ⟨i, by omega, hJx'⟩⟩
                    · have hv : rowV (some ⟨zb, zo, none⟩) l i = .slice (some ⟨zb, zo, none⟩) 0 0 := by unfold rowV; rw [if_pos (by omega), show endR l i - atR l i = 0 by omega]
                      have hy := HY.out i wr (by omega) Hw.out.1
                      rw [hv] at hy
                      obtain ⟨fn, tmps, assign, body, hy, hR⟩ := hy
                      clear hv
                      go_upto_region 10 with fail
                      refine (wpIn_wide (n := 0)).1 ?_
                      gi_wp2
                      refine ⟨rfl, hR.mono ?_⟩
                      rintro e W' (⟨rfl, hJ', hk'⟩ | ⟨rfl, hJx'⟩)
                      · have d0' : W'.heap[b]? = some (.cells #[.slice (some ⟨zb, zo, none⟩) n c] 26 (0, 0)) := (hk'.own _ rfl).trans Hw.out.2.1
                        have hlw' : ∀ k, k < B0 → W'.heap[k]? = W0.heap[k]? := fun k hk => (hk'.low k hk).trans (Hw.out.2.2 k hk)
                        have hmono := atR_mono l (Nat.le_succ i)
                        have Hn := Lib.hid (And.intro hJ' (And.intro d0' (And.intro hlw' hmono)))
                        clear hJ' hk' d0' hlw' hmono
                        gi_wp2
                        go_wp2
                        go_roundw
                        case rel => exact ⟨i + 1, atR l i, by omega, Hn.out.2.2.2, rfl, by go_num, Hn.out.1, Hn.out.2.1, Hn.out.2.2.1⟩
                        case measure => simp [RowKit.intOf]; omega
                      · gi_wp2
                        go_wp2
                        simp only [Exit.noGoto]
                        go_end0
                        exact ⟨⟨_, rfl⟩, .inr ⟨i, by omega, hJx'⟩⟩
                  · have hen2 : n ≤ endR l i := by omega
                    have hdn : decide (endR l i < n) = false := decide_eq_false (by omega)
                    have hv : rowV (some ⟨zb, zo, none⟩) l i = .slice (some ⟨zb, zo + atR l i * 3, none⟩) (endR l i - atR l i) (endR l i - atR l i) := by unfold rowV; rw [if_neg (by omega)]; simp [Addr.add]; try omega
                    have hy := HY.out i wr (by omega) Hw.out.1
                    rw [hv] at hy
                    obtain ⟨fn, tmps, assign, body, hy, hR⟩ := hy
                    clear hv
                    go_upto_region 10 with fail
                    refine (wpIn_wide (n := 0)).1 ?_
                    gi_wp2
                    refine ⟨rfl, hR.mono ?_⟩
                    rintro e W' (⟨rfl, hJ', hk'⟩ | ⟨rfl, hJx'⟩)
                    · have d0' : W'.heap[b]? = some (.cells #[.slice (some ⟨zb, zo, none⟩) n c] 26 (0, 0)) := (hk'.own _ rfl).trans Hw.out.2.1
                      have hlw' : ∀ k, k < B0 → W'.heap[k]? = W0.heap[k]? := fun k hk => (hk'.low k hk).trans (Hw.out.2.2 k hk)
                      have hmono := atR_mono l (Nat.le_succ i)
                      have Hn := Lib.hid (And.intro hJ' (And.intro d0' (And.intro hlw' hmono)))
                      clear hJ' hk' d0' hlw' hmono
                      gi_wp2
                      go_wp2
                      go_roundw
                      case rel => exact ⟨i + 1, atR l i, by omega, Hn.out.2.2.2, rfl, by go_num, Hn.out.1, Hn.out.2.1, Hn.out.2.2.1⟩
                      case measure => simp [RowKit.intOf]; omega
                    · gi_wp2
                      go_wp2
                      simp only [Exit.noGoto]
                      go_end0
                      exact ⟨⟨_, rfl⟩, .inr ⟨i, by omega, hJx'⟩⟩
            · have hdn : decide (atR l i < n) = false := decide_eq_false (by omega)
              go_wp2_with fail
              clear hdn
              go_loopw [7] (fun t7 wr => ∃ e : Nat, atR l i ≤ e ∧ e ≤ endR l i ∧ t7 = .int .i64 (e : Int) ∧ wr = wp) (fun t7 _ => n - (RowKit.intOf t7).toNat)
              case atStart => exact ⟨atR l i, Nat.le_refl _, hae, rfl, rfl⟩
              case round =>
                obtain ⟨e, he1, he2, rfl, hwe⟩ := hrel
                subst hwe
                obtain rfl : e = endR l i := by omega
                have hdn : decide (endR l i < n) = false := decide_eq_false (by omega)
                have hv : rowV (some ⟨zb, zo, none⟩) l i = .slice (some ⟨zb, zo, none⟩) (endR l i - atR l i) (endR l i - atR l i) := by unfold rowV; rw [if_pos (by omega)]
                have hy := HY.out i wr (by omega) Hw.out.1
                rw [hv] at hy
                obtain ⟨fn, tmps, assign, body, hy, hR⟩ := hy
                clear hv
                go_upto_region 10 with fail
                refine (wpIn_wide (n := 0)).1 ?_
                gi_wp2
                refine ⟨rfl, hR.mono ?_⟩
                rintro e W' (⟨rfl, hJ', hk'⟩ | ⟨rfl, hJx'⟩)
                · have d0' : W'.heap[b]? = some (.cells #[.slice (some ⟨zb, zo, none⟩) n c] 26 (0, 0)) := (hk'.own _ rfl).trans Hw.out.2.1
                  have hlw' : ∀ k, k < B0 → W'.heap[k]? = W0.heap[k]? := fun k hk => (hk'.low k hk).trans (Hw.out.2.2 k hk)
                  have hmono := atR_mono l (Nat.le_succ i)
                  have Hn := Lib.hid (And.intro hJ' (And.intro d0' (And.intro hlw' hmono)))
                  clear hJ' hk' d0' hlw' hmono
                  gi_wp2
                  go_wp2
                  go_roundw
                  case rel => exact ⟨i + 1, atR l i, by omega, Hn.out.2.2.2, rfl, by go_num, Hn.out.1, Hn.out.2.1, Hn.out.2.2.1⟩
                  case measure => simp [RowKit.intOf]; omega
                · gi_wp2
                  go_wp2
                  simp only [Exit.noGoto]
                  go_end0
                  exact ⟨⟨_, rfl⟩, .inr ⟨i, by omega, hJx'⟩⟩
      · obtain rfl : i = 4352 := by omega
        have hdec : decide (((4352 : Nat) : Int) < 4352) = false := rfl
        go_wp2_with fail
        simp only [Exit.noGoto]
        go_end0
        exact ⟨⟨_, rfl⟩, .inl Hw.out.1⟩
end Go.Vir


namespace Go.Vir
open Go Go.RowKit Go.Proofs
attribute [local go_sem] Oper.semAt_some

section
variable {F b m : Nat} {X : Nat → Prop} {W W' : World} {T : TrV} {Vi Vb : Value} {xs : List Value}
theorem TrS.keepD (h : TrS F X W T Vi Vb xs) (hs : W.heap.size ≤ W'.heap.size) (hk : ∀ k o, F ≤ k → W.heap[k]? = some o → isData o = true → W'.heap[k]? = some o) : TrS F X W' T Vi Vb xs := by
  have row : ∀ {e : TypeId} {v : Value} {n : Nat} {ys : List Value}, W.ownsRow F e 1 v n ys → W'.ownsRow F e 1 v n ys := fun hr => by
    refine ⟨hr.1, ?_⟩
    rcases hr.2 with hn | ⟨g, cap, cur, rfl, hb, hgg, rest⟩
    · exact .inl hn
    · exact .inr ⟨g, cap, cur, rfl, hb, hk g _ hb hgg rfl, rest⟩
  refine ⟨row h.ri, row h.rb, ⟨h.iv.1, fun j hj => ?_⟩, h.ne, h.xi, h.xb, by have := h.hF; omega, fun k hx => by have := h.hX k hx; omega⟩
  obtain ⟨g, c, e, hc, hF, hg, hd, hi⟩ := h.iv.2 j hj
  refine ⟨g, c, e, hc, hF, by omega, hd, hi.len, fun hn => ?_⟩
  obtain ⟨b, o, e2, hlt, hcell⟩ := hi.at_ hn
  obtain ⟨rfl, rfl⟩ : g = b ∧ 0 = o := by simpa using e2
  refine ⟨g, 0, rfl, by omega, fun i hii => ?_⟩
  have h1 := hcell i hii
  rcases hb : W.heap[g]? with _ | ob
  · simp [World.cell?, hb] at h1
  · cases ob with
    | cells cs t m => exact (World.cell?_of_block (a := ⟨g, 0 + i, none⟩) ((hk g _ hF hb rfl).trans hb.symm)).trans h1
    | _ => simp [World.cell?, hb] at h1
end
def BuS (w : World) (F b m q p : Nat) (l : List Rg) (i : Nat) (W : World) : Prop :=
  ∃ Vi Vb xs, BdS F b m (rowsT l i) Vi Vb xs W ∧ W.heap[p]? = some (.cells #[.pointer (some ⟨b, 0, none⟩)] 143 (0, 0)) ∧ W.heap[q]? = some (.cells #[.slice none 0 0, .slice none 0 0] 40 (0, 0)) ∧ Below w.heap.size w W
theorem BuS.moves {w : World} {F b m q p r B0 : Nat} {l : List Rg} {i : Nat} {A B : World} (h : BuS w F b m q p l i A) (hm : Moves B0 (fun k => k = r) A B) (hw : w.heap.size ≤ B0) (hr : w.heap.size ≤ r) (hrF : r < F) (h1 : b ≠ r) (h2 : m ≠ r) (h3 : p ≠ r) (h4 : q ≠ r) : BuS w F b m q p l i B := by
  obtain ⟨Vi, Vb, xs, hS, hp, hq, hb⟩ := h
  obtain ⟨es, ck, g1, g2⟩ := hS.mp
  exact ⟨Vi, Vb, xs, ⟨hm.cells hS.bd h1, ⟨es, ck, hm.dataObj g1 h2, g2⟩, hS.st.keepD hm.size (fun k o hk ho hd => hm.data k o ho hd (by show ¬ k = r; omega)), hS.len, hS.ne, trivial, trivial⟩, hm.cells hp h3, hm.cells hq h4, Below.moves hb hm hw (fun k hk => by have hk : k = r := hk; omega)⟩
theorem BuS.below {w : World} {F b m q p : Nat} {l : List Rg} {i : Nat} {A B : World} (h : BuS w F b m q p l i A) (hb : Below A.heap.size A B) (hs : w.heap.size ≤ A.heap.size) : BuS w F b m q p l i B := by
  obtain ⟨Vi, Vb, xs, hS, hp, hq, hbw⟩ := h
  exact ⟨Vi, Vb, xs, hS.below hb, (hb.block p (Array.getElem?_eq_some_iff.1 hp).1).trans hp, (hb.block q (Array.getElem?_eq_some_iff.1 hq).1).trans hq, hbw.trans (hb.mono hs)⟩
theorem rows_lens (l : List Rg) (i : Nat) : (rowsT l i).ix.length = i ∧ (rowsT l i).bl.length ≤ i := ⟨(rows_inv l i).len, (rows_inv l i).blen⟩
theorem BuS.step {w : World} {F b m q p r : Nat} {l : List Rg} {i : Nat} {Vi Vb : Value} {xs : List Value} {W W' : World} (hS : BdS F b m (rowsT l i) Vi Vb xs W) (hp : W.heap[p]? = some (.cells #[.pointer (some ⟨b, 0, none⟩)] 143 (0, 0)))
    (hq : W.heap[q]? = some (.cells #[.slice none 0 0, .slice none 0 0] 40 (0, 0))) (hbw : Below w.heap.size w W) (ha : AddP F b m (rowsT l (i + 1)) Vi Vb W W') (hpb : p ≠ b ∧ p ≠ m ∧ p < F) (hqb : q ≠ b ∧ q ≠ m ∧ q < F) (hbm : w.heap.size ≤ b ∧ w.heap.size ≤ m) (hwF : w.heap.size ≤ F) (hr : r ≠ b ∧ r ≠ m ∧ r < F) (hrW : r < W.heap.size) :
    BuS w F b m q p l (i + 1) W' ∧ Keeps w.heap.size (fun k => k = r) W W' := by
  obtain ⟨Vi', Vb', xs', h1, h2⟩ := ha
  have hown : ∀ k, k < F → Vi.ownBlock ≠ some k ∧ Vb.ownBlock ≠ some k := fun k hk => ⟨fun e => by have := (lt_own hS.st.ri k e).1; omega, fun e => by have := (lt_own hS.st.rb k e).1; omega⟩
  refine ⟨⟨Vi', Vb', xs', h1, (h2.blk p (Array.getElem?_eq_some_iff.1 hp).1 hpb.1 hpb.2.1 (hown p hpb.2.2).1 (hown p hpb.2.2).2).trans hp, (h2.blk q (Array.getElem?_eq_some_iff.1 hq).1 hqb.1 hqb.2.1 (hown q hqb.2.2).1 (hown q hqb.2.2).2).trans hq,
    hbw.trans ⟨h2.os, h2.tape, h2.output, h2.size, fun k hk => h2.blk k (by have := hbw.size; omega) (by omega) (by omega) (hown k (by omega)).1 (hown k (by omega)).2⟩⟩,
    h2.size, fun k hk => h2.blk k (by have := hbw.size; omega) (by omega) (by omega) (hown k (by omega)).1 (hown k (by omega)).2, fun k hk => ?_, fun k o ho hd => ?_⟩
  · have hk : k = r := hk
    subst hk
    exact h2.blk k hrW hr.1 hr.2.1 (hown k hr.2.2).1 (hown k hr.2.2).2
  · refine (h2.blk k (Array.getElem?_eq_some_iff.1 ho).1 ?_ ?_ ?_ ?_).trans ho
    · rintro rfl; rw [hS.bd] at ho; cases ho; cases hd
    · rintro rfl
      obtain ⟨es, ck, g1, _⟩ := hS.mp
      rw [g1] at ho; cases ho; cases hd
    · intro e
      obtain ⟨_, o', h3, h4⟩ := row_data hS.st.ri k e
      rw [h3] at ho; cases ho; rw [hd] at h4; cases h4
    · intro e
      obtain ⟨_, o', h3, h4⟩ := row_data hS.st.rb k e
      rw [h3] at ho; cases ho; rw [hd] at h4; cases h4
theorem rowV_rgs {W : World} {B n : Nat} {A : Option Addr} {l : List Rg} (h : Rgs W B A n l) (i : Nat) : ∃ A' n', rowV A l i = .slice A' n' n' ∧ n' ≤ n ∧ Rgs W B A' n' ((l.drop (atR l i)).take (endR l i - atR l i)) := by
  have hel := endR_le l i
  have hae : atR l i ≤ endR l i := by unfold endR; omega
  have hln := h.len
  refine ⟨_, _, rfl, by omega, by rw [List.length_take, List.length_drop]; omega, fun hn => ?_⟩
  obtain ⟨b, o, rfl, hb, hc⟩ := h.at_ (by omega)
  rw [if_neg (by omega)]
  refine ⟨b, o + atR l i * 3, by simp [Addr.add]; try omega, hb, fun j hj => ?_⟩
  rw [List.length_take, List.length_drop] at hj
  have h1 := hc (atR l i + j) (by omega)
  rw [List.getElem_take, List.getElem_drop]
  rw [show o + atR l i * 3 + j * 3 = o + (atR l i + j) * 3 by omega]
  exact h1

set_option maxRecDepth 100000 in
set_option maxHeartbeats 4000000 in
theorem trie_Build (A : Option Addr) (n c : Nat) (l : List Rg) (w : World) (hx : Rgs w w.heap.size A n l) (hn : n ≤ 600) (hnc : n ≤ c) (hl : riseR (-1) l = true) :
    Calls Tryz.prog 56 #[.slice A n c] w fun e w' => ∃ Ai ni ci Ab nb cb, e = .returned (.tuple #[.agg #[.slice Ai ni ci, .slice Ab nb cb], .int .i64 0]) ∧ ni ≤ ci ∧ nb ≤ cb ∧ Tri w' w'.heap.size Ai ni Ab nb (buildT l) ∧ Below w.heap.size w w' := by
  have hmm := @run_makeMap Tryz.prog
  have hb0 : Below w.heap.size w (w.alloc (.cells #[.slice none 0 0, .slice none 0 0] 40)) := by go_grown
  have hrt := span_Right A n c l (w.alloc (.cells #[.slice none 0 0, .slice none 0 0] 40)) ((hx.below hb0).more hb0.size) (by omega) hl
  rw [show decide ((n : Int) ≤ 600) = true from decide_eq_true (by omega)] at hrt
  have Hrt := Lib.hid hrt
  have Hx := Lib.hid hx
  have Hb0 := Lib.hid hb0
  clear hrt hx hb0
  refine (callsIn_wide (n := 0)).1 ?_
  refine callsIn_of_wp_marks Tryz.func56 rfl trivial ?_ rfl
  simp only [Tryz.ntmps56, List.size_toArray, List.length_cons, List.length_nil, Nat.reduceAdd, Nat.reduceSub, Array.replicate_succ, Array.replicate_zero, List.push_toArray, List.append_toArray, List.nil_append, List.cons_append]
  refine wpIn_wide.2 ?_
  go_wp2_with fail
  refine Hrt.out.mono ?_
  rintro e w1 ⟨rfl, hb1⟩
  have hq1 := (hb1.block w.heap.size (by simp)).trans (heap_new rfl)
  have hbw1 := Hb0.out.trans (hb1.mono Hb0.out.size)
  go_wp2_with (go_at_call 99; refine (rows_make _ _ _ _).mono ?_; rintro e w2 ⟨rfl, rfl⟩)
  clear hmm
  refine wp_gen ?_
  intro W1 hW1
  have hs1 : w.heap.size + 1 ≤ w1.heap.size := by have := hb1.size; simpa using this
  have hsz : W1.heap.size = w1.heap.size + 4 := by simp [hW1]
  have hbA : Below w1.heap.size w1 W1 := by rw [hW1]; go_grown
  have d1 : W1.heap[w1.heap.size]? = some (.map #[] 0) := (by rw [hW1]; simp (disch := (first | omega | (simp only [World.size_alloc]; done) | (simp only [World.size_alloc]; omega))) only [heap_laws])
  have d2 : W1.heap[w1.heap.size + 1]? = some (.cells #[.slice none 0 0, .slice none 0 0, .map (some w1.heap.size)] 146 (0, 0)) := (by rw [hW1]; simp (disch := (first | omega | (simp only [World.size_alloc]; done) | (simp only [World.size_alloc]; omega))) only [heap_laws])
  have d3 : W1.heap[w1.heap.size + 2]? = some (.cells #[.pointer (some ⟨w1.heap.size + 1, 0, none⟩)] 143 (0, 0)) := (by rw [hW1]; simp (disch := (first | omega | (simp only [World.size_alloc]; done) | (simp only [World.size_alloc]; omega))) only [heap_laws])
  have d4 : W1.heap[w1.heap.size + 3]? = some (.cells #[.slice A n c] 26 (0, 0)) := (by rw [hW1]; simp (disch := (first | omega | (simp only [World.size_alloc]; done) | (simp only [World.size_alloc]; omega))) only [heap_laws])
  have dq := (hbA.block w.heap.size (by omega)).trans hq1
  have hbW1 : Below w.heap.size w W1 := hbw1.trans (hbA.mono hbw1.size)
  have hit := rows_iter w.heap.size (w1.heap.size + 3) A n c l W1 (by omega) (by omega) (by omega) hnc hl d4 (Hx.out.below hbW1)
  have hst0 : BuS w (w1.heap.size + 4) (w1.heap.size + 1) w1.heap.size w.heap.size (w1.heap.size + 2) l 0 W1 :=
    ⟨_, _, [], ⟨d2, ⟨#[], 0, d1, rfl⟩, TrS.nil (by omega) (fun k hk => by rcases hk with rfl | rfl <;> omega), (fun y hy => by cases hy), by omega, trivial, trivial⟩, d3, dq, hbW1⟩
  have Hit := Lib.hid hit
  have Hst0 := Lib.hid hst0
  have HbW1 := Lib.hid hbW1
  clear hit hst0 hW1 d1 d2 d3 d4 dq hq1 hbA hbW1 hb1 Hrt
  refine (wpIn_wide (n := 0)).1 ?_
  refine range_law (a₁ := ?a1) (O := fun k => k = w1.heap.size + 3) (B0 := w.heap.size) (W0 := W1) rfl (enters_of Tryz.func140 (by kernel_rfl) rfl) Hit.out (Below.refl _ _) (fun k hk => ?hO) (by omega) (fun _ => rfl)
    (fun i W => BuS w (w1.heap.size + 4) (w1.heap.size + 1) w1.heap.size w.heap.size (w1.heap.size + 2) l i W)
    (fun i c W => False)
    (fun i X Y hi hm => ?hI) (fun i c X Y hi hm => hi) Hst0.out ?assign ?body ?done ?stop
  case hO => have hk : k = w1.heap.size + 3 := hk; omega
  case hI => exact hi.moves hm (Nat.le_refl _) (by omega) (by omega) (by omega) (by omega) (by omega) (by omega)
  case assign =>
    intro lp i W K hK
    gi_wp2
    exact hK
  case body =>
    rintro lp i W hi hst hsW
    have hst2 := hst
    obtain ⟨Vi, Vb, xs, hS, hp, hq, hbW⟩ := hst
    obtain ⟨A', n', hv, hn', hr⟩ := rowV_rgs (Hx.out.below hbW) i
    have e1 : W.cell? ⟨w1.heap.size + 2, 0, none⟩ = some (.pointer (some ⟨w1.heap.size + 1, 0, none⟩)) := cell_blk hp 0
    have hfill := trie_fill i A' n' n' _ W.drew ((hr.below (Below.refl _ _).drew).more hbW.size) (by omega) hi
    rw [row_says hl] at hfill
    have Hfill := Lib.hid hfill
    have HS := Lib.hid (And.intro hS (And.intro hp (And.intro hq hbW)))
    clear hst2 hr hfill hS hp hq hbW
    rw [hv]
    clear hv
    gi_wp2
    refine wpIn_held_tail 3 (fun V => V.cell? ⟨w1.heap.size + 2, 0, none⟩ = some (.pointer (some ⟨w1.heap.size + 1, 0, none⟩)))
      (by kernel_rfl) (by kernel_rfl) (by kernel_rfl) rfl (by decide) (by kernel_rfl) (by kernel_rfl) (by kernel_rfl) e1 ?_
    simp only [List.take_succ_cons, List.take_zero]
    refine ⟨.pointer (some ⟨w1.heap.size + 1, 0, none⟩), .inl ⟨rfl, fun V hV => by go_simp⟩, ?_⟩
    refine ⟨.int .i64 (i : Int), .inl ⟨rfl, fun V hV => by go_simp⟩, ?_⟩
    refine ⟨.slice A' n' n', .inl ⟨rfl, fun V hV => by go_simp⟩, ?_⟩
    refine ⟨rfl, ?_⟩
    go_simp
    refine ⟨trivial, rfl, (callsIn_round Hfill.out).mono ?_⟩
    rintro e w7 ⟨rfl, hb7⟩
    obtain ⟨hS, hp, hq, hbW⟩ := HS.out
    have hbd : Below W.heap.size W w7 := (Below.refl _ W).drew.trans hb7
    refine ⟨cell_blk ((hbd.block _ (by omega)).trans hp) 0, ?_⟩
    have hS7 := hS.below hbd
    have hbl : (blockT l i).length = 256 := block_len l i
    have hadd := builder_add _ _ _ _ _ _ _ (blockT l i) w7 hS7 hbl (by have := (rows_lens l i).1; omega) (by have := (rows_lens l i).2; omega)
    have Hadd := Lib.hid hadd
    clear hadd
    gi_wp2
    refine ⟨trivial, rfl, (callsIn_round Hadd.out).mono ?_⟩
    rintro e w8 ⟨⟨v, rfl⟩, ha⟩
    have hw1 := HbW1.out.size
    obtain ⟨h1, h2⟩ := BuS.step hS7 ((hbd.block _ (by omega)).trans hp) ((hbd.block _ (by omega)).trans hq) (hbW.trans (hbd.mono hbW.size)) ha ⟨by omega, by omega, by omega⟩ ⟨by omega, by omega, by omega⟩ ⟨by omega, by omega⟩ (by omega) (r := w1.heap.size + 3) ⟨by omega, by omega, by omega⟩ (by have := hbd.size; omega)
    gi_wp2
    exact ⟨(Keeps.below (fun k hk => by have hk : k = w1.heap.size + 3 := hk; omega) hbW.size hbd).trans h2, h1⟩
  case done =>
    rintro D W hD hst hK
    have hT : buildT l = rowsT l 4352 := by unfold buildT; rfl
    unfold BuS at hst
    generalize rowsT l 4352 = T at hst hT
    have HT := Lib.hid hT
    obtain ⟨Vi, Vb, xs, hS, hp, hq, hbW⟩ := hst
    obtain ⟨Ai, ni, ci, Ab, nb, cb, rfl, rfl, h1, h2, htri⟩ := hS.st.tri
    have hs2 := HbW1.out.size
    have hW1D : W1.heap.size ≤ D := hD
    have e1 := cell_blk hp 0
    have e2 := cell_blk hS.bd 0
    have e3 := cell_blk hS.bd 1
    have e4 := cell_blk hq 0
    have e5 := cell_blk hq 1
    have e6 := frozen_blk hq 0
    have e7 := frozen_blk hq 1
    have Htri := Lib.hid htri
    have Hq := Lib.hid hq
    have HbW := Lib.hid hbW
    have Hst := Lib.hid hS.st
    clear hT htri hq hbW hS hp
    go_wp2
    obtain ⟨V, hV⟩ : ∃ V, (W.setCell ⟨w.heap.size, 0, none⟩ (.slice Ai ni ci)).setCell ⟨w.heap.size, 1, none⟩ (.slice Ab nb cb) = V := ⟨_, rfl⟩
    have hne : w.heap.size ≠ D := by omega
    have hsV : V.heap.size = W.heap.size := by rw [← hV]; simp [World.setCell]
    have hk : ∀ k, k ≠ w.heap.size → V.heap[k]? = W.heap[k]? := fun k hk => by
      rw [← hV]; exact (Below.heap_setCell _ _ _ _ hk).trans (Below.heap_setCell _ _ _ _ hk)
    have hD2 : V.heap[D]? = some (.deferred (some [])) := (hk D (Ne.symm hne)).trans hK
    have hc0 : V.heap[w.heap.size]? = some (.cells #[.slice Ai ni ci, .slice Ab nb cb] 40 (0, 0)) := by
      rw [← hV]; simp [World.setCell, Array.getElem?_modify, Hq.out]
    have hbV : Below w.heap.size w V := by rw [← hV]; exact (HbW.out.setCell (by simp) _).setCell (by simp) _
    rw [hV]
    clear hV
    refine ⟨by simp, .inl ⟨_, _, rfl, run_takeDeferred hD2, ?_⟩⟩
    have f0 := cell_blk ((World.putObj_heap_other (o := .deferred none) hne).trans hc0) 0
    have f1 := cell_blk ((World.putObj_heap_other (o := .deferred none) hne).trans hc0) 1
    refine ⟨.tuple #[.agg #[.slice Ai ni ci, .slice Ab nb cb], .int .i64 0], by simp [results, Tryz.results56, go_sem, f0, f1], ?_⟩
    have hst2 := Hst.out.keepD (W' := V.putObj D (.deferred none)) (by simp [hsV]) (fun k o hF ho hd => by
      have hkD : k ≠ D := by rintro rfl; rw [hK] at ho; cases ho; cases hd
      exact (World.putObj_heap_other hkD).trans ((hk k (by omega)).trans ho))
    obtain ⟨Ai', ni', ci', Ab', nb', cb', g1, g2, g3, g4, g5⟩ := hst2.tri
    cases g1
    cases g2
    exact ⟨_, _, _, _, _, _, rfl, g3, g4, by rw [HT.out]; exact g5, below_putObj hbV (by omega)⟩
  case stop =>
    rintro D i c W hD hi hx hK
    exact hx.elim
end Go.Vir


namespace Go.Vir
open Go Go.RowKit Go.Proofs
attribute [local go_sem] Oper.semAt_some

def MakeP (T : TrV × Bool × Int × Int) (e : Ending) (w' : World) : Prop :=
  ∃ Ai ni ci Ab nb cb, e = .returned (.tuple #[.agg #[.slice Ai ni ci, .slice Ab nb cb, .bool T.2.1], .int .i64 T.2.2.1, .int .i64 T.2.2.2]) ∧ ni ≤ ci ∧ nb ≤ cb ∧ Tri w' w'.heap.size Ai ni Ab nb T.1
theorem Tri.nil (w : World) (B : Nat) : Tri w B none 0 none 0 { ix := [], bl := [] } := ⟨Ints.nil _ _ _, Intss.nil _ _ _⟩

theorem Ints.cellW {W W' : World} {B B' q n : Nat} {A : Option Addr} {l : List Int} (h : Ints W B A n l) (hq : W.heap[q]? = some (.cells #[.slice none 0 0, .slice none 0 0, .bool false] 42 (0, 0))) (hk : ∀ k, k ≠ q → W'.heap[k]? = W.heap[k]?) (hB : B ≤ B') : Ints W' B' A n l := by
  refine ⟨h.len, fun hn => ?_⟩
  obtain ⟨b, o, e, hb, hc⟩ := h.at_ hn
  have hbq : b ≠ q := by
    rintro rfl
    have h2 := hc 0 (by rw [h.len]; exact hn)
    rw [cell_blk hq] at h2
    rcases o with _ | _ | _ | o <;> simp at h2
  exact ⟨b, o, e, by omega, fun j hj => (World.cell?_of_block (a := ⟨b, o + j, none⟩) (hk b hbq)).trans (hc j hj)⟩
theorem Tri.cellW {W W' : World} {B B' q ni nb : Nat} {Ai Ab : Option Addr} {T : TrV} (h : Tri W B Ai ni Ab nb T) (hq : W.heap[q]? = some (.cells #[.slice none 0 0, .slice none 0 0, .bool false] 42 (0, 0))) (hne : ∀ b ∈ T.bl, b ≠ []) (hk : ∀ k, k ≠ q → W'.heap[k]? = W.heap[k]?) (hB : B ≤ B') : Tri W' B' Ai ni Ab nb T := by
  refine ⟨h.ix.cellW hq hk hB, h.bl.len, fun hn => ?_⟩
  obtain ⟨b, o, e, hb, hc⟩ := h.bl.at_ hn
  have hbq : b ≠ q := by
    rintro rfl
    have hl : 0 < T.bl.length := by rw [h.bl.len]; exact hn
    obtain ⟨A', n', c', h2, h3, _⟩ := hc 0 hl
    have hpos : 0 < n' := by
      have := List.length_pos_iff.2 (hne _ (List.getElem_mem hl))
      rw [h3.len] at this
      exact this
    rw [cell_blk hq] at h2
    rcases o with _ | _ | _ | o <;> simp at h2 <;> omega
  refine ⟨b, o, e, by omega, fun j hj => ?_⟩
  obtain ⟨A', n', c', h2, h3, h4⟩ := hc j hj
  exact ⟨A', n', c', (World.cell?_of_block (a := ⟨b, o + j, none⟩) (hk b hbq)).trans h2, h3.cellW hq hk hB, h4⟩
theorem build_ne (l : List Rg) : ∀ b ∈ (buildT l).bl, b ≠ [] := fun b hb => by
  obtain ⟨i, rfl⟩ := (rows_inv l 4352).mem b hb
  intro e
  have := block_len l i
  rw [e] at this
  cases this

set_option maxRecDepth 100000 in
set_option maxHeartbeats 4000000 in
theorem width_Make (s : List UInt8) (wd : Bool) (w : World) (hG : GlobP w) (hl : s.length ≤ 20000) :
    Calls Tryz.prog 25 #[.string ⟨s.toArray⟩, .bool wd] w fun e w' => MakeP (makeW s wd) e w' ∧ Below w.heap.size w w' := by
  obtain ⟨W0, hW0⟩ : ∃ W0, W0 = w.alloc (.cells #[.slice none 0 0, .slice none 0 0, .bool false] 42) := ⟨_, rfl⟩
  have hbw : Below w.heap.size w W0 := by rw [hW0]; go_grown
  have hx0 : W0.heap[w.heap.size]? = some (.cells #[.slice none 0 0, .slice none 0 0, .bool false] 42 (0, 0)) := by rw [hW0]; exact heap_new rfl
  have hlt := (Array.getElem?_eq_some_iff.1 hx0).1
  have hmk : makeW s wd = if (readB s widNm 0 false).2.2 = 0 then (buildT (readB s widNm 0 false).1, wd, 0, 0) else ({ ix := [], bl := [] }, false, (readB s widNm 0 false).2.1, (readB s widNm 0 false).2.2) := rfl
  have hmap := @read_map s widNm 0 false
  have HG := Lib.hid hG
  have Hmk := Lib.hid hmk
  have Hmap := Lib.hid hmap
  have Hbw := Lib.hid hbw
  have Hx := Lib.hid hx0
  clear hG hmk hmap hbw hx0
  go_enter Tryz.func25, Tryz.ntmps25
  go_upto_region 1 with fail
  rw [← hW0]
  clear hW0
  go_wp2_with fail
  refine (width_Names W0).mono ?_
  rintro e w1 ⟨rfl, hz1, hb1⟩
  have hbw1 := Hbw.out.trans (hb1.mono Hbw.out.size)
  have hx1 := (hb1.block _ hlt).trans Hx.out
  have hrd := prop_Read (some ⟨W0.heap.size, 0, none⟩) 7 7 0 false widNm s w1 (HG.out.below hbw1) hz1 (by omega) (by decide) (by omega)
  have Hrd := Lib.hid hrd
  have Hbw1 := Lib.hid hbw1
  have Hx1 := Lib.hid hx1
  have hlt1 := (Array.getElem?_eq_some_iff.1 hx1).1
  clear hrd hbw1 hx1 hz1 hb1
  go_wp2_with fail
  refine Hrd.out.mono ?_
  generalize readB s widNm 0 false = ra at *
  rintro e w2 ⟨A2, n2, c2, rfl, hnc2, hr2, hb2⟩
  have hbw2 := Hbw1.out.trans (hb2.mono Hbw1.out.size)
  have hx2 := (hb2.block _ hlt1).trans Hx1.out
  have hlt2 := (Array.getElem?_eq_some_iff.1 hx2).1
  have hlr := hr2.len
  by_cases h0 : ra.2.2 = 0
  rotate_left
  · have hm : makeW s wd = ({ ix := [], bl := [] }, false, ra.2.1, ra.2.2) := by rw [Hmk.out, if_neg h0]
    have e1 : (ra.2.2 != 0) = true := by simpa using h0
    obtain ⟨g1, g2, _, _⟩ := widths_stored (.slice none 0 0) (.slice none 0 0) (.bool false) hx2 hbw2 (Nat.le_refl _)
    have G1 := Lib.hid g1
    have G2 := Lib.hid g2
    obtain ⟨i0, i1, i2⟩ := cells3 hx2
    have s0 := frozen_blk hx2 0
    have s1 := frozen_blk hx2 1
    have s2 := frozen_blk hx2 2
    have Hm := Lib.hid hm
    clear Hmk Hmap h0 hm g1 g2 hbw2 hr2 hx2 Hrd HG Hx Hx1 Hbw Hbw1 hlr
    go_wp2_with fail
    obtain ⟨j0, j1, j2⟩ := cells3 G1.out
    (try simp only [Exit.inBlock, Exit.then])
    refine bodyPost_ret (v := .tuple #[.agg #[.slice none 0 0, .slice none 0 0, .bool false], .int .i64 ra.2.1, .int .i64 ra.2.2]) (results_widths_t rfl rfl rfl rfl j0 j1 j2) rfl ?_
    rw [Hm.out]
    exact ⟨⟨_, _, _, _, _, _, rfl, Nat.le_refl _, Nat.le_refl _, Tri.nil _ _⟩, G2.out⟩
  · have hm : makeW s wd = (buildT ra.1, wd, 0, 0) := by rw [Hmk.out, if_pos h0]
    obtain ⟨hrise, hln, _, _⟩ := Hmap.out h0
    have e1 : (ra.2.2 != 0) = false := by simp [h0]
    have hbd := trie_Build A2 n2 c2 ra.1 w2 hr2 (by omega) hnc2 hrise
    have Hbd := Lib.hid hbd
    have Hbw2 := Lib.hid hbw2
    have Hx2 := Lib.hid hx2
    have Hm := Lib.hid hm
    have Hne := Lib.hid (build_ne ra.1)
    clear Hmk Hmap h0 hm hbd hbw2 hr2 hx2 Hrd HG Hx Hx1 Hbw Hbw1 hlr hrise hln
    go_wp2_with fail
    refine Hbd.out.mono ?_
    generalize buildT ra.1 = T at *
    rintro e w3 ⟨Ai, ni, ci, Ab, nb, cb, rfl, hi, hb, hT, hb3⟩
    obtain ⟨W4, hW4⟩ : ∃ W4, W4 = w3.alloc (.cells #[.slice Ai ni ci, .slice Ab nb cb] 40) := ⟨_, rfl⟩
    have hbw3 := Hbw2.out.trans (hb3.mono Hbw2.out.size)
    have hb4 : Below w3.heap.size w3 W4 := by rw [hW4]; go_grown
    have hy4 : W4.heap[w3.heap.size]? = some (.cells #[.slice Ai ni ci, .slice Ab nb cb] 40 (0, 0)) := by rw [hW4]; exact heap_new rfl
    have hx3 := (hb3.block _ hlt2).trans Hx2.out
    have hx4 := (hb4.block _ (Array.getElem?_eq_some_iff.1 hx3).1).trans hx3
    have hbw4 := hbw3.trans (hb4.mono hbw3.size)
    have hT4 := hT.below hb4
    obtain ⟨g1, g2, g3, g4⟩ := widths_stored (.slice Ai ni ci) (.slice Ab nb cb) (.bool wd) hx4 hbw4 (Nat.le_refl _)
    have hT5 : Tri ((((W4.setCell ⟨w.heap.size, 0, none⟩ (.slice Ai ni ci)).setCell ⟨w.heap.size, 1, none⟩ (.slice Ab nb cb)).setCell ⟨w.heap.size, 2, none⟩ (.bool wd))) (((W4.setCell ⟨w.heap.size, 0, none⟩ (.slice Ai ni ci)).setCell ⟨w.heap.size, 1, none⟩ (.slice Ab nb cb)).setCell ⟨w.heap.size, 2, none⟩ (.bool wd)).heap.size Ai ni Ab nb T := hT4.cellW hx4 Hne.out g3 (by rw [g4]; exact hb4.size)
    obtain ⟨f0, f1⟩ := cells2 hy4
    obtain ⟨i0, i1, i2⟩ := cells3 hx4
    have s0 := frozen_blk hx4 0
    have s1 := frozen_blk hx4 1
    have s2 := frozen_blk hx4 2
    have G1 := Lib.hid g1
    have G2 := Lib.hid g2
    have HT5 := Lib.hid hT5
    clear g1 g2 g3 g4 hT5 hT4 hT Hne hbw4 hx4 hx3 hbw3 Hbd Hbw2 Hx2 hy4 hb4 hb3
    go_upto_region 5 with fail
    rw [← hW4]
    clear hW4
    go_wp2_with fail
    obtain ⟨j0, j1, j2⟩ := cells3 G1.out
    (try simp only [Exit.inBlock, Exit.then])
    refine bodyPost_ret (v := .tuple #[.agg #[.slice Ai ni ci, .slice Ab nb cb, .bool wd], .int .i64 0, .int .i64 0]) (results_widths_t rfl rfl rfl rfl j0 j1 j2) rfl ?_
    rw [Hm.out]
    exact ⟨⟨_, _, _, _, _, _, rfl, hi, hb, HT5.out⟩, G2.out⟩
end Go.Vir


namespace Go.Vir
open Go Go.RowKit Go.Proofs
attribute [local go_sem] Oper.semAt_some

structure GloW (w : World) (p q u p2 q2 : Addr) : Prop where
  prp : GlobP w
  wid : WidG w p q u
  sca : ScaG w p2 q2
theorem GloW.below {w w' : World} {p q u p2 q2 : Addr} (h : GloW w p q u p2 q2) (hb : Below w.heap.size w w') : GloW w' p q u p2 q2 := ⟨h.prp.below hb, h.wid.below hb, h.sca.below hb⟩
theorem build_lens (l : List Rg) : (buildT l).ix.length = 4352 ∧ (buildT l).bl.length ≤ 4352 ∧ ∀ b ∈ (buildT l).bl, b.length ≤ 1000000 := by
  have h := rows_inv l 4352
  refine ⟨h.len, h.blen, fun b hb => ?_⟩
  obtain ⟨i, rfl⟩ := h.mem b hb
  rw [block_len]
  decide
def shO : Obj := .cells #[.string ⟨#[97]⟩, .string ⟨#[228, 184, 173]⟩, .string ⟨#[204, 129]⟩, .string ⟨#[98]⟩] 9
def shL : List (List UInt8) := [[97], [228, 184, 173], [204, 129], [98]]
theorem shO_strs (w : World) : Strs (w.alloc shO) (w.alloc shO).heap.size (some ⟨w.heap.size, 0, none⟩) 4 shL := by
  refine ⟨rfl, fun _ => ⟨_, 0, rfl, by simp, fun j hj => ?_⟩⟩
  have h := cell_blk (heap_new (w := w) (o := shO) rfl) j
  rw [Nat.zero_add]
  refine h.trans ?_
  match j, hj with
  | 0, _ => rfl
  | 1, _ => rfl
  | 2, _ => rfl
  | 3, _ => rfl
  | k + 4, h => exact absurd h (by simp [shL])

set_option maxRecDepth 1000000 in
set_option maxHeartbeats 4000000 in
theorem law15_shown (p q u p2 q2 : Addr) (w : World) (hG : GloW w p q u p2 q2) : Calls Tryz.prog 24 #[] w fun e w' => e = .returned (.bool true) ∧ Below w.heap.size w w' := by
  have h1 := width_Make shT1 false w hG.prp (by decide)
  rw [sw_make1] at h1
  have H1 := Lib.hid h1
  have HG := Lib.hid hG
  obtain ⟨l1, l2, l3⟩ := build_lens shW
  have Hbs := Lib.hid l3
  clear h1 hG l3
  go_enter Tryz.func24, Tryz.ntmps24
  go_wp2_with fail
  refine H1.out.mono ?_
  rintro e w1 ⟨⟨Ai, ni, ci, Ab, nb, cb, rfl, hi, hn, hT⟩, hb1⟩
  have hT : Tri w1 w1.heap.size Ai ni Ab nb (buildT shW) := hT
  have hni := hT.ix.len
  have hnb := hT.bl.len
  have hi : ni ≤ 1000000 := by omega
  have hn : nb ≤ 1000000 := by omega
  obtain ⟨W2, hW2⟩ : ∃ W2, W2 = w1.alloc (.cells #[.slice Ai ni ci, .slice Ab nb cb, .bool false] 42) := ⟨_, rfl⟩
  have hb2 : Below w1.heap.size w1 W2 := by rw [hW2]; go_grown
  have hx2 : W2.heap[w1.heap.size]? = some (.cells #[.slice Ai ni ci, .slice Ab nb cb, .bool false] 42 (0, 0)) := by rw [hW2]; exact heap_new rfl
  have hlt := (Array.getElem?_eq_some_iff.1 hx2).1
  have f0 := cell_blk hx2 0
  have f1 := cell_blk hx2 1
  have f2 := cell_blk hx2 2
  have Hbw := Lib.hid (hb1.trans (hb2.mono hb1.size))
  have HT := Lib.hid ((hT.below hb2).more hb2.size)
  have Hx := Lib.hid hx2
  clear hT hb1 hb2 hx2 l1 l2 hni hnb
  go_upto_region 2 with fail
  rw [← hW2]
  clear hW2
  generalize hw2 : W2 = w2 at *
  clear hw2
  have hq2 : Below w2.heap.size w2 w2 := Below.refl _ _
  have h3 := width_Cluster Ai ni ci Ab nb cb false (buildT shW) [228, 184, 173] p q u p2 q2 w2 ((HT.out.below hq2).more hq2.size) hi hn Hbs.out (by decide) ((HG.out.wid.below Hbw.out).below hq2) ((HG.out.sca.below Hbw.out).below hq2)
  rw [sw_c1] at h3
  have H3 := Lib.hid h3
  clear h3
  go_wp2_with fail
  refine H3.out.mono ?_
  clear H3 f0 f1 f2
  rintro e w3 ⟨rfl, hb3⟩
  have hq3 := hq2.trans (hb3.mono hq2.size)
  have hx3 := (hq3.block _ hlt).trans Hx.out
  have f0 := cell_blk hx3 0
  have f1 := cell_blk hx3 1
  have f2 := cell_blk hx3 2
  clear hb3 hq2 hx3
  have h4 := width_Cluster Ai ni ci Ab nb cb false (buildT shW) [97, 204, 129] p q u p2 q2 w3 ((HT.out.below hq3).more hq3.size) hi hn Hbs.out (by decide) ((HG.out.wid.below Hbw.out).below hq3) ((HG.out.sca.below Hbw.out).below hq3)
  rw [sw_c2] at h4
  have H4 := Lib.hid h4
  clear h4
  go_wp2_with fail
  refine H4.out.mono ?_
  clear H4 f0 f1 f2
  rintro e w4 ⟨rfl, hb4⟩
  have hq4 := hq3.trans (hb4.mono hq3.size)
  have hx4 := (hq4.block _ hlt).trans Hx.out
  have f0 := cell_blk hx4 0
  have f1 := cell_blk hx4 1
  have f2 := cell_blk hx4 2
  clear hb4 hq3 hx4
  have h5 := width_Of Ai ni ci Ab nb cb false (buildT shW) 769 p q u p2 q2 w4 ((HT.out.below hq4).more hq4.size) hi hn Hbs.out ((HG.out.wid.below Hbw.out).below hq4) ((HG.out.sca.below Hbw.out).below hq4)
  rw [sw_o] at h5
  have H5 := Lib.hid h5
  clear h5
  go_wp2_with fail
  refine H5.out.mono ?_
  clear H5 f0 f1 f2
  rintro e w5 ⟨rfl, hb5⟩
  have hq5 := hq4.trans (hb5.mono hq4.size)
  have hx5 := (hq5.block _ hlt).trans Hx.out
  have f0 := cell_blk hx5 0
  have f1 := cell_blk hx5 1
  have f2 := cell_blk hx5 2
  clear hb5 hq4 hx5
  have hbS : Below w5.heap.size w5 (w5.alloc shO) := by unfold shO; go_grown
  have hqS := hq5.trans (hbS.mono hq5.size)
  have h6 := width_Fit Ai ni ci Ab nb cb false (buildT shW) (some ⟨w5.heap.size, 0, none⟩) 4 4 3 shL p q u p2 q2 (w5.alloc shO) ((HT.out.below hqS).more hqS.size) hi hn Hbs.out (shO_strs w5) (by omega) (by decide) ((HG.out.wid.below Hbw.out).below hqS) ((HG.out.sca.below Hbw.out).below hqS)
  rw [show fitsW (buildT shW) false shL 3 = (3, 0) from sw_f] at h6
  have H6 := Lib.hid h6
  have HqS := Lib.hid hqS
  clear h6 hbS hqS hq5
  go_wp2_with fail
  refine H6.out.mono ?_
  clear H6 f0 f1 f2
  rintro e w6 ⟨rfl, hb6⟩
  have hq6 := HqS.out.trans (hb6.mono HqS.out.size)
  have hx6 := (hq6.block _ hlt).trans Hx.out
  have h7 := width_Make shT2 true w6 (HG.out.prp.below (Hbw.out.trans (hq6.mono Hbw.out.size))) (by decide)
  rw [sw_make2] at h7
  have H7 := Lib.hid h7
  have Hq6 := Lib.hid hq6
  clear h7 hb6 hq6 hx6
  go_wp2_with fail
  refine H7.out.mono ?_
  clear H7
  rintro e w7 ⟨⟨Ai2, ni2, ci2, Ab2, nb2, cb2, rfl, hi2, hn2, hT2⟩, hb7⟩
  obtain ⟨w8, hW8⟩ : ∃ w8, w8 = w7.alloc (.cells #[.slice Ai2 ni2 ci2, .slice Ab2 nb2 cb2, .bool false] 42) := ⟨_, rfl⟩
  have hb8 : Below w7.heap.size w7 w8 := by rw [hW8]; go_grown
  have hb78 := hb7.trans (hb8.mono hb7.size)
  have hq8 := Hq6.out.trans (hb78.mono Hq6.out.size)
  have hx8 := (hq8.block _ hlt).trans Hx.out
  have f0 := cell_blk hx8 0
  have f1 := cell_blk hx8 1
  have f2 := cell_blk hx8 2
  clear hb78 hb8 hb7 hx8 hT2 hi2 hn2
  go_upto_region 7 with fail
  rw [← hW8]
  clear hW8
  have h9 := width_Cluster Ai ni ci Ab nb cb false (buildT shW) [255] p q u p2 q2 w8 ((HT.out.below hq8).more hq8.size) hi hn Hbs.out (by decide) ((HG.out.wid.below Hbw.out).below hq8) ((HG.out.sca.below Hbw.out).below hq8)
  rw [sw_c3] at h9
  have H9 := Lib.hid h9
  clear h9
  go_wp2_with fail
  refine H9.out.mono ?_
  clear H9 f0 f1 f2
  rintro e w9 ⟨rfl, hb9⟩
  have hq9 := hq8.trans (hb9.mono hq8.size)
  have hx9 := (hq9.block _ hlt).trans Hx.out
  have f0 := cell_blk hx9 0
  have f1 := cell_blk hx9 1
  have f2 := cell_blk hx9 2
  clear hb9 hq8 hx9
  go_wp2_with fail
  go_ret
  exact ⟨rfl, Hbw.out.trans (hq9.mono Hbw.out.size)⟩
end Go.Vir


namespace Go.Vir
open Go Go.RowKit Go.Proofs Go.Shelf
attribute [local go_sem] Oper.semAt_some

set_option maxRecDepth 100000 in
set_option maxHeartbeats 8000000 in
theorem ref_Parse3 (s : List UInt8) (w : World) (hl : s.length ≤ 20000) :
    Calls Tryz.prog 48 #[.string ⟨s.toArray⟩] w fun e w' => ∃ A n c, e = .returned (.tuple #[.slice A n c, .int .i64 (fileN s).2.1, .int .i64 (fileN s).2.2]) ∧ n ≤ c ∧ Recs w' w'.heap.size A n (fileN s).1 ∧ Below w.heap.size w w' := by
  obtain ⟨i0, hi0, hz0, hz1, hz2⟩ := info_parts rec_info
  have hle : decide (20000 < (s.length : Int)) = false := decide_eq_false (by omega)
  have hfe : fileN s = recsN (splitL 10 s) 0 [] := rfl
  obtain ⟨F, hF⟩ : ∃ F, F = fileN s := ⟨_, rfl⟩
  rw [← hF]
  rw [← hF] at hfe
  have Hfe := Lib.hid hfe
  clear hfe hF
  go_enter Tryz.func48, Tryz.ntmps48
  go_wp2_with fail
  refine (ref_Split s 10 w (by omega)).mono ?_
  rintro e w4 ⟨A2, n2, d2, rfl, hnd2, hS2, hb4⟩
  have hlen2 := hS2.len
  have hmem : ∀ t ∈ splitL 10 s, t.length ≤ 100000 := fun t ht => by have := (splitL_mem 10 s t ht).1; omega
  have hsl := splitL_length 10 s
  generalize splitL 10 s = ls at *
  have Hmem := Lib.hid hmem
  have Hlen2 := Lib.hid hlen2
  have hn2 : n2 ≤ 20001 := by omega
  clear hmem hlen2
  go_wp2_with fail
  go_loopw [5, 7] (fun v0 i wr => ∃ (k : Nat) (acc : List RecV) (v : Value) (xs : List Value), v = v0 ∧ k ≤ n2 ∧ i = .int .i64 (k : Int) ∧ wr.ownsRow w4.heap.size 82 4 v acc.length xs ∧ RCs wr wr.heap.size w4.heap.size v.ownBlock acc xs ∧ acc.length ≤ 300 ∧ Below w4.heap.size w4 wr ∧ F = recsN (ls.drop k) k acc) (fun _ i _ => n2 - (RowKit.intOf i).toNat)
  case atStart => exact ⟨0, [], _, [], rfl, Nat.zero_le _, rfl, World.ownsRow_nil _ _ _ _, rfl, by simp, Below.refl _ _, by rw [List.drop_zero]; exact Hfe.out⟩
  case round =>
    obtain ⟨k, acc, v, xs, rfl, hk, rfl, hown, hrv, hacc, hbq, hlin⟩ := hrel
    have hbr : Below w.heap.size w wr := hb4.trans (hbq.mono hb4.size)
    have Hlin := Lib.hid hlin
    clear hlin
    rcases Nat.lt_or_ge k n2 with hlt | hge
    · obtain ⟨zb, zo, rfl, hzb, hzc⟩ := (hS2.below hbq).at_ (by omega)
      have hkl : k < ls.length := by rw [Hlen2.out]; exact hlt
      have z1 := hzc k hkl
      have ht := Hmem.out _ (List.getElem_mem hkl)
      have hstep : F = match lineN ls[k] with
          | .none => recsN (ls.drop (k + 1)) (k + 1) acc
          | .bad w => ([], (k : Int) + 1, w)
          | .rcd a b fs => if acc.length = 300 then ([], (k : Int) + 1, 24) else recsN (ls.drop (k + 1)) (k + 1) (acc ++ [{ line := (k : Int) + 1, f := (a : Int), t := (b : Int), fs := fs }]) := by
        rw [Hlin.out, List.drop_eq_getElem_cons hkl, recsN_cons]
        cases lineN ls[k] <;> rfl
      have Hstep := Lib.hid hstep
      clear hzc hstep
      generalize ls[k] = t at z1 Hstep ht
      have hln := ref_Line t wr ht
      have hwhy := fun (x : Int) (h : lineN t = .bad x) => lineN_why h
      generalize lineN t = r at hln Hstep hwhy
      have Hln := Lib.hid hln
      have Hwhy := Lib.hid hwhy
      have Hown := Lib.hid hown
      have Hrv := Lib.hid hrv
      clear hln hown hrv hwhy
      go_wp2_with fail
      refine Hln.out.mono ?_
      rintro e w5 ⟨he, hb6⟩
      have hown5 := ownsRow_below Hown.out hb6
      have hrv5 := Hrv.out.below hb6 hb6.size
      have hbq5 : Below w4.heap.size w4 w5 := hbq.trans (hb6.mono hbq.size)
      have hbw5 := hbr.trans (hb6.mono hbr.size)
      rcases r with _ | why | ⟨a, b, fs⟩
      · obtain rfl : e = _ := he
        have hs2 : F = recsN (ls.drop (k + 1)) (k + 1) acc := Hstep.out
        have Hs2 := Lib.hid hs2
        have hbA : Below w5.heap.size w5 (w5.alloc (.cells zeroC 82)) := (Below.refl _ w5).alloc (Nat.le_refl _) _
        have Hown6 := Lib.hid (ownsRow_below hown5 hbA)
        have Hrv6 := Lib.hid (hrv5.below hbA hbA.size)
        have Hbq6 := Lib.hid (hbq5.trans (hbA.mono hbq5.size))
        clear hs2 hown5 hrv5 hbA hbq5 z1
        go_wp2_with fail
        go_roundw
        case rel => exact ⟨k + 1, acc, _, xs, rfl, by omega, by go_num, Hown6.out, Hrv6.out, hacc, Hbq6.out, Hs2.out⟩
        case measure => simp [RowKit.intOf]; omega
      · obtain rfl : e = _ := he
        have hs2 : F = ([], (k : Int) + 1, why) := Hstep.out
        have Hs2 := Lib.hid hs2
        have hw0 : (why != 0) = true := by rcases Hwhy.out why rfl with rfl | rfl | rfl <;> rfl
        clear hs2 hown5 hrv5 hbq5 z1
        go_wp2_with fail
        go_ret3
        exact ⟨none, 0, 0, by rw [Hs2.out]; rfl, Nat.le_refl _, by rw [Hs2.out]; exact Recs.nil _ _ _, hbw5.alloc hbw5.size _⟩
      · obtain ⟨Af, nf, cf, rfl, hM, hnf, hfr⟩ := he
        by_cases hmany : acc.length = 300
        · have hs2 : F = ([], (k : Int) + 1, 24) := by rw [Hstep.out]; exact if_pos hmany
          have Hs2 := Lib.hid hs2
          have h300 : ((acc.length : Int) == 300) = true := by rw [hmany]; rfl
          obtain ⟨Aw, nw, cw, rfl, hnw, hnc2, hRl⟩ := recs_own hown5 hrv5 (Nat.le_refl _)
          subst hnw
          clear hs2 hown5 hrv5 hRl hmany hbq5 z1 hM hfr
          go_wp2_with fail
          go_ret3
          exact ⟨none, 0, 0, by rw [Hs2.out]; rfl, Nat.le_refl _, by rw [Hs2.out]; exact Recs.nil _ _ _, hbw5.alloc hbw5.size _⟩
        · have hs2 : F = recsN (ls.drop (k + 1)) (k + 1) (acc ++ [{ line := (k : Int) + 1, f := (a : Int), t := (b : Int), fs := fs }]) := by rw [Hstep.out]; exact if_neg hmany
          have Hs2 := Lib.hid hs2
          have h300 : ((acc.length : Int) == 300) = false := by rw [beq_eq_false_iff_ne]; omega
          have hlt300 : acc.length < 300 := by omega
          have hbA : Below w5.heap.size w5 (w5.alloc (.cells #[.int .i64 ((k : Int) + 1), .int .i64 (a : Int), .int .i64 (b : Int), .slice Af nf cf] 82)) := (Below.refl _ w5).alloc (Nat.le_refl _) _
          have hbk2 : (w5.alloc (.cells #[.int .i64 ((k : Int) + 1), .int .i64 (a : Int), .int .i64 (b : Int), .slice Af nf cf] 82)).heap[w5.heap.size]? = some (.cells #[.int .i64 ((k : Int) + 1), .int .i64 (a : Int), .int .i64 (b : Int), .slice Af nf cf] 82 (0, 0)) := heap_new rfl
          have hOl : Off w4.heap.size v.ownBlock Af nf := fun h => by
            obtain ⟨bb, o, e, hb⟩ := hfr h
            exact ⟨bb, o, e, by have := hbq.size; omega, fun hc => by have := (Hown.out.lt bb hc.symm).2; omega⟩
          have hrvS := hrv5.snoc (x := { line := (k : Int) + 1, f := (a : Int), t := (b : Int), fs := fs }) hM hnf hOl
          obtain ⟨Aw, nw, cw, rfl, hnw, hnc2, hRl⟩ := recs_own hown5 hrv5 (Nat.le_refl _)
          subst hnw
          have Hlt5 := Lib.hid hown5.lt
          have HownA := Lib.hid (ownsRow_below hown5 hbA)
          have HrvS := Lib.hid (hrvS.below hbA hbA.size)
          have HbqA := Lib.hid (hbq5.trans (hbA.mono hbq5.size))
          have hszA := hbA.size
          have hF5 := hbq5.size
          clear hs2 hown5 hrv5 hRl hmany hbq5 z1 hM hfr hOl hrvS hbA
          go_upto_region 15 with fail
          generalize w5.alloc (.cells #[.int .i64 ((k : Int) + 1), .int .i64 (a : Int), .int .i64 (b : Int), .slice Af nf cf] 82) = wA at *
          have d0 := cell_blk hbk2 0
          have d1 := cell_blk hbk2 1
          have d2 := cell_blk hbk2 2
          have d3 := cell_blk hbk2 3
          simp only [List.getElem?_toArray, List.getElem?_cons_zero, List.getElem?_cons_succ] at d0 d1 d2 d3
          clear hbk2
          go_wp2_with (at_builtin; refine wpList_append_at _ rfl _ _ 78 rfl w4.heap.size 82 i0 (.agg #[.int .i64 0, .int .i64 0, .int .i64 0, .slice none 0 0]) 4 48 Tryz.underlying78 hi0 hz0 hz1 hz2 rfl (by decide) _ _ _ rfl (HownA.out.alloc _) ⟨wA.heap.size, 0, none⟩ 1 1 [.int .i64 ((k : Int) + 1), .int .i64 (a : Int), .int .i64 (b : Int), .slice Af nf cf] rfl rfl (cell_four_new wA _ _ _ _ _) (by intro u hu; simp at hu; rcases hu with rfl | rfl | rfl | rfl <;> rfl) (by simp only [maxLen]; omega) (by omega) (by simp; omega) ?_; intro v' w8 hown8 hgrow hat)
          have hbB : Below wA.heap.size wA (wA.alloc (.cells #[.int .i64 ((k : Int) + 1), .int .i64 (a : Int), .int .i64 (b : Int), .slice Af nf cf] 82)) := (Below.refl _ wA).alloc (Nat.le_refl _) _
          have hrv8 := rcs_added (HrvS.out.below hbB hbB.size) (Nat.le_refl _) hgrow hat
          have hbq8 : Below w4.heap.size w4 w8 := (HbqA.out.trans (hbB.mono HbqA.out.size)).grown hgrow (HbqA.out.trans (hbB.mono HbqA.out.size)).size (fun g hg => (Hlt5.out g hg).1)
          go_roundw
          case rel => exact ⟨k + 1, acc ++ [{ line := (k : Int) + 1, f := (a : Int), t := (b : Int), fs := fs }], _, _, rfl, by omega, by go_num, by rw [List.length_append]; exact hown8, hrv8, by simp; omega, hbq8, Hs2.out⟩
          case measure => simp [RowKit.intOf]; omega
    · have hfin : F = (acc, 0, 0) := by rw [Hlin.out, List.drop_eq_nil_of_le (by rw [Hlen2.out]; exact hge), recsN]
      have Hfin := Lib.hid hfin
      obtain ⟨Aw, nw, cw, rfl, hnw, hnc2, hRl⟩ := recs_own hown hrv (Nat.le_refl _)
      have HRl := Lib.hid hRl
      clear hfin hnw hown hrv hRl
      go_wp2_with fail
      go_ret3
      exact ⟨Aw, nw, cw, by rw [Hfin.out]; rfl, hnc2, by rw [Hfin.out]; exact HRl.out, hbr⟩
end Go.Vir

