/- Joined texts: ErrP, PrE, ShelfD, WrA, WrB, R4a. -/
import Derived.Test.YtjbeaheenfcgdaaGreatDoorCb
import Derived.Test.YtjbeaheenfcgdaaGreatDoorCg
import Derived.BigQuiet
import Derived.Deep.QuietTactic
import Derived.RowKitTokens
import Derived.Deep.RegionLaw
/- errors.As at prop.wrong, prop.told. -/
namespace Go.Vir
open Go Go.RowKit Go.Proofs Go.Extern.Stop Go.Stop Go.Extern

theorem pw_valueOfP (t : Addr) (w : World) : (ReflectliteValue.unpack (.iface 132 (.pointer (some t)))).run Tryz.prog w
    = .ok (.agg #[.pointer (some ⟨12, 132, none⟩), .pointer (some ⟨w.heap.size, 0, none⟩), .int .u64 150]) (w.alloc (.cells #[.pointer (some t)] 132)) := by kernel_rfl
theorem pw_typeP (a : Addr) (w : World) : (ReflectliteValue.methodAny (ReflectliteValue.valueError "reflectlite.Value.Type" 0) (fun t _ _ _ => ReflectliteType.toType t) #[.agg #[.pointer (some ⟨12, 132, none⟩), .pointer (some a), .int .u64 150]]).run Tryz.prog w
    = .ok (.iface 233 (.agg #[.pointer (some ⟨12, 132, none⟩)])) w := by kernel_rfl
theorem pw_kindP (w : World) : ((ReflectliteType.abiMethod fun t => (fun a : Nat => Value.int IntKind.u8 (a : Int)) <$> Rtype.kind t) #[.pointer (some ⟨12, 132, none⟩)]).run Tryz.prog w = .ok (.int .u8 22) w := by kernel_rfl
theorem pw_kindS (w : World) : ((ReflectliteType.abiMethod fun t => (fun a : Nat => Value.int IntKind.u8 (a : Int)) <$> Rtype.kind t) #[.pointer (some ⟨12, 129, none⟩)]).run Tryz.prog w = .ok (.int .u8 25) w := by kernel_rfl
theorem pw_partsP (a : Addr) (w : World) : (ReflectliteValue.parts (.agg #[.pointer (some ⟨12, 132, none⟩), .pointer (some a), .int .u64 150])).run Tryz.prog w = .ok (some (132, a, 150)) w := by kernel_rfl
theorem pw_isNilP (a p : Addr) (W : World) (ha : W.cell? a = some (.pointer (some p))) :
    (ReflectliteValue.method (ReflectliteValue.valueError "reflectlite.Value.IsNil" 0) ReflectliteValue.isNil #[.agg #[.pointer (some ⟨12, 132, none⟩), .pointer (some a), .int .u64 150]]).run Tryz.prog W = .ok (.bool false) W := by
  rw [rlm]
  simp only [Sem.run_bind, pw_partsP, Result.andThen]
  simp [ReflectliteValue.isNil, loadVar, isAgg, underlying, Tryz.underlying132, ha, Result.andThen]
theorem pw_elemP (w : World) : (ReflectliteType.method ReflectliteType.elem #[.agg #[.pointer (some ⟨12, 132, none⟩)]]).run Tryz.prog w = .ok (.iface 233 (.agg #[.pointer (some ⟨12, 129, none⟩)])) w := by kernel_rfl
theorem pw_implS (w : World) : (ReflectliteType.relation "Implements" ReflectliteType.implements_ #[.agg #[.pointer (some ⟨12, 129, none⟩)], .iface 233 (.agg #[.pointer (some ⟨12, 67, none⟩)])]).run Tryz.prog w = .ok (.bool true) w := by kernel_rfl
theorem pw_typeOfS (v : Value) (w : World) : (ReflectliteType.typeOf #[.iface 129 v]).run Tryz.prog w = .ok (.iface 233 (.agg #[.pointer (some ⟨12, 129, none⟩)])) w := by kernel_rfl
theorem pw_assS (w : World) : (ReflectliteType.relation "AssignableTo" ReflectliteType.assignableTo #[.agg #[.pointer (some ⟨12, 129, none⟩)], .iface 233 (.agg #[.pointer (some ⟨12, 129, none⟩)])]).run Tryz.prog w = .ok (.bool true) w := by kernel_rfl
theorem pw_valueOfS (c0 c1 c2 : Value) (w : World) : (ReflectliteValue.unpack (.iface 129 (.agg #[c0, c1, c2]))).run Tryz.prog w
    = .ok (.agg #[.pointer (some ⟨12, 129, none⟩), .pointer (some ⟨w.heap.size, 0, none⟩), .int .u64 153]) (w.alloc (.cells #[c0, c1, c2] 129)) := by kernel_rfl
theorem pw_elemOfP (w : World) : (Rtype.elem? 132).run Tryz.prog w = .ok (some 129) w := by kernel_rfl
theorem pw_mkS (p : Addr) (w : World) : (ReflectliteValue.mk 129 p ReflectliteValue.flagAddr).run Tryz.prog w = .ok (.agg #[.pointer (some ⟨12, 129, none⟩), .pointer (some p), .int .u64 409]) w := by kernel_rfl
theorem pw_elemVP (a p : Addr) (W : World) (ha : W.cell? a = some (.pointer (some p))) :
    (ReflectliteValue.method (ReflectliteValue.valueError "reflectlite.Value.Elem" 0) ReflectliteValue.elem #[.agg #[.pointer (some ⟨12, 132, none⟩), .pointer (some a), .int .u64 150]]).run Tryz.prog W
      = .ok (.agg #[.pointer (some ⟨12, 129, none⟩), .pointer (some p), .int .u64 409]) W := by
  rw [rlm]
  simp only [Sem.run_bind, pw_partsP, Result.andThen]
  simp [ReflectliteValue.elem, loadVar, isAgg, underlying, Tryz.underlying132, ha, Result.andThen, pw_elemOfP, pw_mkS]
theorem pw_partsA (a : Addr) (w : World) : (ReflectliteValue.parts (.agg #[.pointer (some ⟨12, 129, none⟩), .pointer (some a), .int .u64 409])).run Tryz.prog w = .ok (some (129, a, 409)) w := by kernel_rfl
theorem pw_partsS (a : Addr) (w : World) : (ReflectliteValue.parts (.agg #[.pointer (some ⟨12, 129, none⟩), .pointer (some a), .int .u64 153])).run Tryz.prog w = .ok (some (129, a, 153)) w := by kernel_rfl
theorem pw_directS (w : World) : (Rtype.directlyAssignable 129 129).run Tryz.prog w = .ok true w := by kernel_rfl
theorem pw_sizeS (w : World) : (sizeOf 129).run Tryz.prog w = .ok 3 w := by kernel_rfl
theorem pw_aggS (w : World) : (isAgg 129).run Tryz.prog w = .ok true w := by kernel_rfl
theorem pw_setS (tb bb : Nat) (c0 c1 c2 o0 o1 o2 : Value) (W : World) (h0 : c0.oneCell' = true) (h1 : c1.oneCell' = true) (h2 : c2.oneCell' = true)
    (hb0 : W.cell? ⟨bb, 0, none⟩ = some c0) (hb1 : W.cell? ⟨bb, 1, none⟩ = some c1) (hb2 : W.cell? ⟨bb, 2, none⟩ = some c2)
    (ht0 : W.cell? ⟨tb, 0, none⟩ = some o0) (ht1 : W.cell? ⟨tb, 1, none⟩ = some o1) (ht2 : W.cell? ⟨tb, 2, none⟩ = some o2) (hf0 : W.frozen? ⟨tb, 0, none⟩ = false) (hf1 : W.frozen? ⟨tb, 1, none⟩ = false) (hf2 : W.frozen? ⟨tb, 2, none⟩ = false) :
    (ReflectliteValue.set #[.agg #[.pointer (some ⟨12, 129, none⟩), .pointer (some ⟨tb, 0, none⟩), .int .u64 409], .agg #[.pointer (some ⟨12, 129, none⟩), .pointer (some ⟨bb, 0, none⟩), .int .u64 153]]).run Tryz.prog W
      = .ok (.tuple #[]) (((W.setCell ⟨tb, 0, none⟩ c0).setCell ⟨tb, 1, none⟩ c1).setCell ⟨tb, 2, none⟩ c2) := by
  have e1 : (loadVar 129 ⟨bb, 0, none⟩).run Tryz.prog W = .ok (.agg #[c0, c1, c2]) W := by
    unfold loadVar
    simp only [Sem.run_bind, pw_aggS, pw_sizeS, Result.andThen, if_true]
    simp [Result.andThen, loadCells, loadCellsFrom, Addr.add, hb0, hb1, hb2]
  have hv : (Value.agg #[c0, c1, c2]).cells = #[c0, c1, c2] := rfl
  have g1 : (W.setCell ⟨tb, 0, none⟩ c0).cell? ⟨tb, 1, none⟩ = some o1 := by
    rw [World.cell?_setCell_other _ _ _ _ (by simp)]; exact ht1
  have k1 : (W.setCell ⟨tb, 0, none⟩ c0).frozen? ⟨tb, 1, none⟩ = false := by simp [hf1]
  have g2 : ((W.setCell ⟨tb, 0, none⟩ c0).setCell ⟨tb, 1, none⟩ c1).cell? ⟨tb, 2, none⟩ = some o2 := by
    rw [World.cell?_setCell_other _ _ _ _ (by simp), World.cell?_setCell_other _ _ _ _ (by simp)]; exact ht2
  have k2 : ((W.setCell ⟨tb, 0, none⟩ c0).setCell ⟨tb, 1, none⟩ c1).frozen? ⟨tb, 2, none⟩ = false := by simp [hf2]
  have e2 : (storeVar 129 ⟨tb, 0, none⟩ (.agg #[c0, c1, c2])).run Tryz.prog W = .ok () (((W.setCell ⟨tb, 0, none⟩ c0).setCell ⟨tb, 1, none⟩ c1).setCell ⟨tb, 2, none⟩ c2) := by
    unfold storeVar
    simp only [hv]
    simp only [Sem.run_bind, pw_sizeS, Result.andThen]
    simp only [storeCells, Addr.add, Sem.run_bind, List.size_toArray, List.length_cons, List.length_nil, ne_eq, not_true_eq_false, if_false, Sem.run_pure, Result.andThen]
    rw [run_store Tryz.prog W _ _ _ h0]
    simp only [↓reduceIte, Nat.one_ne_zero, ht0, hf0, Bool.false_eq_true, Nat.zero_add]
    rw [run_store Tryz.prog _ _ _ _ h1]
    simp only [↓reduceIte, Nat.reduceEqDiff, g1, k1, Bool.false_eq_true]
    rw [run_store Tryz.prog _ _ _ _ h2]
    simp [g2, k2]
  rw [rls]
  simp only [Sem.run_bind, pw_partsA, pw_partsS, Result.andThen]
  simp [ReflectliteValue.flagAddr, e1, e2, Result.andThen, pw_directS]
set_option maxHeartbeats 4000000 in
theorem prop_as_hit (c0 c1 c2 : Value) (tb : Nat) (o0 o1 o2 : Value) (w : World) (h0 : c0.oneCell' = true) (h1 : c1.oneCell' = true) (h2 : c2.oneCell' = true) (htl : tb < w.heap.size)
    (ht0 : w.cell? ⟨tb, 0, none⟩ = some o0) (ht1 : w.cell? ⟨tb, 1, none⟩ = some o1) (ht2 : w.cell? ⟨tb, 2, none⟩ = some o2) (hf0 : w.frozen? ⟨tb, 0, none⟩ = false) (hf1 : w.frozen? ⟨tb, 1, none⟩ = false) (hf2 : w.frozen? ⟨tb, 2, none⟩ = false) (vb : Nat) (hvb : vb < w.heap.size) (hv : w.cell? ⟨vb, 0, none⟩ = some (.pointer (some ⟨tb, 0, none⟩))) :
    Calls Tryz.prog 135 #[.iface 129 (.agg #[c0, c1, c2]), .iface 132 (.pointer (some ⟨tb, 0, none⟩)), .agg #[.pointer (some ⟨12, 132, none⟩), .pointer (some ⟨vb, 0, none⟩), .int .u64 150], .iface 233 (.agg #[.pointer (some ⟨12, 129, none⟩)])] w fun ev w' =>
      ev = .returned (.bool true) ∧ w'.cell? ⟨tb, 0, none⟩ = some c0 ∧ w'.cell? ⟨tb, 1, none⟩ = some c1 ∧ w'.cell? ⟨tb, 2, none⟩ = some c2 ∧ Below tb w w' := by
  have hTO := @run_callFunc_extern Tryz.prog 130 _ ReflectliteType.typeOf Tryz.func130 (by kernel_rfl) (by kernel_rfl) (by kernel_rfl) (by kernel_rfl)
  have hAT := @run_callFunc_extern Tryz.prog 272 _ (ReflectliteType.relation "AssignableTo" ReflectliteType.assignableTo) Tryz.func272 (by kernel_rfl) (by kernel_rfl) (by kernel_rfl) (by kernel_rfl)
  have hEl := @run_callFunc_extern Tryz.prog 164 _ (ReflectliteValue.method (ReflectliteValue.valueError "reflectlite.Value.Elem" 0) ReflectliteValue.elem) Tryz.func164 (by kernel_rfl) (by kernel_rfl) (by kernel_rfl) (by kernel_rfl)
  have hSe := @run_callFunc_extern Tryz.prog 165 _ ReflectliteValue.set Tryz.func165 (by kernel_rfl) (by kernel_rfl) (by kernel_rfl) (by kernel_rfl)
  have hVO := @run_callFunc_extern Tryz.prog 132 _ (fun args => ReflectliteValue.unpack (args.getD 0 (.tuple #[]))) Tryz.func132 (by kernel_rfl) (by kernel_rfl) (by kernel_rfl) (by kernel_rfl)
  have tO := pw_typeOfS
  have mA := cw_methodAssignableTo
  have aS := pw_assS
  have vS := pw_valueOfS
  have el : ∀ o, (ReflectliteValue.method (ReflectliteValue.valueError "reflectlite.Value.Elem" 0) ReflectliteValue.elem #[.agg #[.pointer (some ⟨12, 132, none⟩), .pointer (some ⟨vb, 0, none⟩), .int .u64 150]]).run Tryz.prog (w.alloc o)
      = .ok (.agg #[.pointer (some ⟨12, 129, none⟩), .pointer (some ⟨tb, 0, none⟩), .int .u64 409]) (w.alloc o) :=
    fun o => pw_elemVP _ _ _ ((World.cell?_alloc_lt _ _ _ hvb).trans hv)
  have st : ∀ o, (ReflectliteValue.set #[.agg #[.pointer (some ⟨12, 129, none⟩), .pointer (some ⟨tb, 0, none⟩), .int .u64 409], .agg #[.pointer (some ⟨12, 129, none⟩), .pointer (some ⟨w.heap.size + 1, 0, none⟩), .int .u64 153]]).run Tryz.prog ((w.alloc o).alloc (.cells #[c0, c1, c2] 129))
      = .ok (.tuple #[]) (((((w.alloc o).alloc (.cells #[c0, c1, c2] 129)).setCell ⟨tb, 0, none⟩ c0).setCell ⟨tb, 1, none⟩ c1).setCell ⟨tb, 2, none⟩ c2) := fun o => by
    have hb : ((w.alloc o).alloc (.cells #[c0, c1, c2] 129)).heap[w.heap.size + 1]? = some (.cells #[c0, c1, c2] 129 (0, 0)) := heap_new (by simp)
    exact pw_setS tb (w.heap.size + 1) c0 c1 c2 o0 o1 o2 _ h0 h1 h2 (cell_blk hb 0) (cell_blk hb 1) (cell_blk hb 2)
      (by rw [World.cell?_alloc_lt _ _ _ (by simp; omega), World.cell?_alloc_lt _ _ _ htl]; exact ht0) (by rw [World.cell?_alloc_lt _ _ _ (by simp; omega), World.cell?_alloc_lt _ _ _ htl]; exact ht1) (by rw [World.cell?_alloc_lt _ _ _ (by simp; omega), World.cell?_alloc_lt _ _ _ htl]; exact ht2)
      (by rw [World.frozen?_alloc_old _ _ _ (by simp; omega), World.frozen?_alloc_old _ _ _ (Nat.ne_of_lt htl)]; exact hf0) (by rw [World.frozen?_alloc_old _ _ _ (by simp; omega), World.frozen?_alloc_old _ _ _ (Nat.ne_of_lt htl)]; exact hf1) (by rw [World.frozen?_alloc_old _ _ _ (by simp; omega), World.frozen?_alloc_old _ _ _ (Nat.ne_of_lt htl)]; exact hf2)
  go_enter Tryz.func135, Tryz.ntmps135
  go_wp2
  refine wp_loop_rounds 1 ?_
  rw [rounds_succ]
  go_wp2
  go_ret
  refine ⟨rfl, ?_, ?_, ?_, ?_⟩
  · rw [World.cell?_alloc_lt _ _ _ (by simp; omega), World.cell?_alloc_lt _ _ _ (by simp; omega), World.cell?_setCell_other _ _ _ _ (by simp), World.cell?_setCell_other _ _ _ _ (by simp), World.cell?_setCell_same' _ _ _ (by simp [ht0])]
  · rw [World.cell?_alloc_lt _ _ _ (by simp; omega), World.cell?_alloc_lt _ _ _ (by simp; omega), World.cell?_setCell_other _ _ _ _ (by simp), World.cell?_setCell_same' _ _ _ (by rw [World.cell?_setCell_other _ _ _ _ (by simp)]; simp [ht1])]
  · rw [World.cell?_alloc_lt _ _ _ (by simp; omega), World.cell?_alloc_lt _ _ _ (by simp; omega), World.cell?_setCell_same' _ _ _ (by rw [World.cell?_setCell_other _ _ _ _ (by simp), World.cell?_setCell_other _ _ _ _ (by simp)]; simp [ht2])]
  · go_grown

set_option maxHeartbeats 4000000 in
theorem prop_as (c0 c1 c2 : Value) (tb : Nat) (o0 o1 o2 : Value) (w : World) (h0 : c0.oneCell' = true) (h1 : c1.oneCell' = true) (h2 : c2.oneCell' = true) (htl : tb < w.heap.size)
    (hg : w.cell? ⟨7, 0, none⟩ = some (.iface 233 (.agg #[.pointer (some ⟨12, 67, none⟩)]))) (hgl : 7 < w.heap.size)
    (ht0 : w.cell? ⟨tb, 0, none⟩ = some o0) (ht1 : w.cell? ⟨tb, 1, none⟩ = some o1) (ht2 : w.cell? ⟨tb, 2, none⟩ = some o2) (hf0 : w.frozen? ⟨tb, 0, none⟩ = false) (hf1 : w.frozen? ⟨tb, 1, none⟩ = false) (hf2 : w.frozen? ⟨tb, 2, none⟩ = false) :
    Calls Tryz.prog 87 #[.iface 129 (.agg #[c0, c1, c2]), .iface 132 (.pointer (some ⟨tb, 0, none⟩))] w fun ev w' =>
      ev = .returned (.bool true) ∧ w'.cell? ⟨tb, 0, none⟩ = some c0 ∧ w'.cell? ⟨tb, 1, none⟩ = some c1 ∧ w'.cell? ⟨tb, 2, none⟩ = some c2 ∧ Below tb w w' := by
  have h6 := @run_callFunc_extern Tryz.prog 132 _ (fun args => ReflectliteValue.unpack (args.getD 0 (.tuple #[]))) Tryz.func132 (by kernel_rfl) (by kernel_rfl) (by kernel_rfl) (by kernel_rfl)
  have h7 := @run_callFunc_extern Tryz.prog 133 _ (ReflectliteValue.methodAny (ReflectliteValue.valueError "reflectlite.Value.Type" 0) (fun t _ _ _ => ReflectliteType.toType t)) Tryz.func133 (by kernel_rfl) (by kernel_rfl) (by kernel_rfl) (by kernel_rfl)
  have h8 := @run_callFunc_extern Tryz.prog 134 _ (ReflectliteValue.method (ReflectliteValue.valueError "reflectlite.Value.IsNil" 0) ReflectliteValue.isNil) Tryz.func134 (by kernel_rfl) (by kernel_rfl) (by kernel_rfl) (by kernel_rfl)
  have h27 := @run_callFunc_extern Tryz.prog 260 _ (ReflectliteType.abiMethod fun t => do pure (.int .u8 (← Rtype.kind t))) Tryz.func260 (by kernel_rfl) (by kernel_rfl) (by kernel_rfl) (by kernel_rfl)
  have h37 := @run_callFunc_extern Tryz.prog 274 _ (ReflectliteType.method ReflectliteType.elem) Tryz.func274 (by kernel_rfl) (by kernel_rfl) (by kernel_rfl) (by kernel_rfl)
  have h38 := @run_callFunc_extern Tryz.prog 275 _ (ReflectliteType.relation "Implements" ReflectliteType.implements_) Tryz.func275 (by kernel_rfl) (by kernel_rfl) (by kernel_rfl) (by kernel_rfl)
  have f6 := pw_valueOfP
  have f7 := pw_typeP
  have mK := cw_methodKind
  have mE := cw_methodElem
  have mI := cw_methodImplements
  have kP := pw_kindP
  have kS := pw_kindS
  have eP := pw_elemP
  have iS := pw_implS
  have n8 : ∀ o, (ReflectliteValue.method (ReflectliteValue.valueError "reflectlite.Value.IsNil" 0) ReflectliteValue.isNil #[.agg #[.pointer (some ⟨12, 132, none⟩), .pointer (some ⟨w.heap.size, 0, none⟩), .int .u64 150]]).run Tryz.prog ((w.alloc (.cells #[.pointer (some ⟨tb, 0, none⟩)] 132)).alloc o) = .ok (.bool false) ((w.alloc (.cells #[.pointer (some ⟨tb, 0, none⟩)] 132)).alloc o) := fun o =>
    pw_isNilP _ ⟨tb, 0, none⟩ _ (cell_blk ((heap_old (by simp)).trans (heap_new rfl)) 0)
  have hc := fun W q1 q2 q3 q4 q5 q6 q7 q8 q9 => prop_as_hit c0 c1 c2 tb o0 o1 o2 W h0 h1 h2 q1 q2 q3 q4 q5 q6 q7 w.heap.size q8 q9
  have Hc := Lib.hid hc
  clear hc
  go_enter Tryz.func87, Tryz.ntmps87
  go_wp2_with (go_at_call 135; refine (Hc.out _ (by simp; omega) ((World.cell?_of_block (Below.block (B := w.heap.size) (by go_grown) _ htl)).trans ht0) ((World.cell?_of_block (Below.block (B := w.heap.size) (by go_grown) _ htl)).trans ht1) ((World.cell?_of_block (Below.block (B := w.heap.size) (by go_grown) _ htl)).trans ht2) ((frozen_of_block (Below.block (B := w.heap.size) (by go_grown) _ htl)).trans hf0) ((frozen_of_block (Below.block (B := w.heap.size) (by go_grown) _ htl)).trans hf1) ((frozen_of_block (Below.block (B := w.heap.size) (by go_grown) _ htl)).trans hf2) (by simp; omega) (cell_blk (cs := #[.pointer (some ⟨tb, 0, none⟩)]) (t := 132) (m := (0, 0)) (by simp (disch := (first | omega | (simp only [World.size_alloc]; omega))) only [heap_new, heap_old]) 0)).mono ?_; rintro ev w1 ⟨rfl, hr0, hr1, hr2, hr9⟩)
  go_ret
  exact ⟨rfl, hr0, hr1, hr2, Below.trans (by go_grown) hr9⟩

end Go.Vir


/- prop.told, prop.Read, prop.Of. -/
namespace Go.Vir
open Go Go.RowKit Go.Proofs Go.Shelf Go.Extern.Stop Go.Stop Go.Extern
attribute [local go_sem] Oper.semAt_some

theorem pw_noIs (v : Value) (xT : TypeId) (w : World) : (Instr.typeAssert (.iface 129 v) xT 235 true).run Tryz.prog w = .ok (.tuple #[.nilIface, .bool false]) w := run_typeAssert_lacksB Tryz.underlying235 (by kernel_rfl) (by kernel_rfl) v xT w
theorem pw_hasUnwrap (v : Value) (xT : TypeId) (w : World) : (Instr.typeAssert (.iface 129 v) xT 238 true).run Tryz.prog w = .ok (.tuple #[.iface 129 v, .bool true]) w := run_typeAssert_hasB Tryz.underlying238 (by kernel_rfl) v xT w
theorem pw_methodUnwrap (v : Value) (w : World) : (Go.method 455 129 v "Unwrap").run Tryz.prog w = .ok (264, v) w := by kernel_rfl

set_option maxHeartbeats 4000000 in
theorem is_wrapped (c0 c1 : Int) (a : Addr) (w : World) :
    Calls Tryz.prog 86 #[.iface 129 (.agg #[.int .i64 c0, .int .i64 c1, .iface 324 (.pointer (some a))]), .iface 324 (.pointer (some a))] w fun e w' => e = .returned (.bool true) ∧ Below w.heap.size w w' := by
  obtain ⟨i, hi, hcmp⟩ := Option.map_eq_some_iff.1 is_comp
  obtain ⟨j, hj, hjs⟩ := Option.map_eq_some_iff.1 is_size
  have h8 := @run_callFunc_extern Tryz.prog 130 _ ReflectliteType.typeOf Tryz.func130 (by kernel_rfl) (by kernel_rfl) (by kernel_rfl) (by kernel_rfl)
  have h32 := @run_callFunc_extern Tryz.prog 273 _ cmpM Tryz.func273 (by kernel_rfl) (by kernel_rfl) (by kernel_rfl) (by kernel_rfl)
  have tT := is_typeOf
  have cT := is_comparable
  have mR := is_methodComparable
  have nI := pw_noIs
  have hU := pw_hasUnwrap
  have mU := pw_methodUnwrap
  have hty := fun v W => run_eql_iface_types (P := Tryz.prog) 129 324 v (.pointer (some a)) Tryz.underlying67 (by decide) W
  have heq := fun W => run_eql_iface_ptr_same (P := Tryz.prog) W a Tryz.underlying67 Tryz.underlying324 hi hcmp hj
  go_enter Tryz.func86, Tryz.ntmps86
  go_wp2
  refine wp_loop_rounds 2 ?_
  rw [rounds_succ]
  go_wp2
  rw [rounds_succ]
  go_wp2
  go_ret
  exact ⟨rfl, by go_grown⟩

set_option maxHeartbeats 4000000 in
theorem prop_told (ln cd : Int) (ep : Addr) (w : World) (hf : w.cell? ⟨1, 0, none⟩ = some (.iface 324 (.pointer (some ep)))) (hfl : 1 < w.heap.size)
    (hg : w.cell? ⟨7, 0, none⟩ = some (.iface 233 (.agg #[.pointer (some ⟨12, 67, none⟩)]))) (hgl : 7 < w.heap.size) :
    Calls Tryz.prog 47 #[errP (.iface 324 (.pointer (some ep))) ln cd] w fun ev w' => ev = .returned (.tuple #[.int .i64 ln, .int .i64 cd]) ∧ Below w.heap.size w w' := by
  have hb : (w.alloc (.cells #[.int .i64 0, .int .i64 0, .nilIface] 129)).heap[w.heap.size]? = some (.cells #[.int .i64 0, .int .i64 0, .nilIface] 129 (0, 0)) := heap_new rfl
  have hbA : Below w.heap.size w (w.alloc (.cells #[.int .i64 0, .int .i64 0, .nilIface] 129)) := by go_grown
  have hIs := is_wrapped ln cd ep (w.alloc (.cells #[.int .i64 0, .int .i64 0, .nilIface] 129))
  have hAs := fun (W : World) (hW : Below (w.heap.size + 1) (w.alloc (.cells #[.int .i64 0, .int .i64 0, .nilIface] 129)) W) =>
    prop_as (.int .i64 ln) (.int .i64 cd) (.iface 324 (.pointer (some ep))) w.heap.size (.int .i64 0) (.int .i64 0) .nilIface W rfl rfl rfl (by have := hW.size; simp at this; omega)
      ((cellOf hW (by omega)).trans ((cellOf hbA hgl).trans hg)) (by have := hW.size; simp at this; omega) (cell_blk ((hW.block _ (by omega)).trans hb) 0) (cell_blk ((hW.block _ (by omega)).trans hb) 1) (cell_blk ((hW.block _ (by omega)).trans hb) 2)
      (frozen_blk ((hW.block _ (by omega)).trans hb) 0) (frozen_blk ((hW.block _ (by omega)).trans hb) 1) (frozen_blk ((hW.block _ (by omega)).trans hb) 2)
  have hf1 := (cellOf hbA hfl).trans hf
  rw [World.size_alloc] at hIs
  have HIs := Lib.hid hIs
  have HAs := Lib.hid hAs
  clear hIs hAs hg hb hf
  unfold errP
  go_enter Tryz.func47, Tryz.ntmps47
  go_wp2_with fail
  refine HIs.out.mono ?_
  rintro e w1 ⟨rfl, hb1⟩
  have hbw1 := hbA.trans (hb1.mono (by omega))
  go_wp2_with fail
  refine (HAs.out w1 hb1).mono ?_
  rintro e w2 ⟨rfl, h0, h1, h2, hb2⟩
  have hbw2 := hbw1.trans hb2
  go_upto_region 3 with fail
  go_quiet (fail)
  go_wp2
  go_ret2
  exact ⟨rfl, hbw2.trans (Below.mono (below_drewN w2.heap.size _ _) hbw2.size)⟩

set_option maxHeartbeats 4000000 in
theorem prop_told_nil (ep : Addr) (w : World) (hf : w.cell? ⟨1, 0, none⟩ = some (.iface 324 (.pointer (some ep)))) (hfl : 1 < w.heap.size) :
    Calls Tryz.prog 47 #[.nilIface] w fun ev w' => ev = .returned (.tuple #[.int .i64 0, .int .i64 0]) ∧ Below w.heap.size w w' := by
  have hq : ∀ W : World, (binOp .eql 67 .nilIface (.iface 324 (.pointer (some ep)))).run Tryz.prog W = .ok (.bool false) W := fun W => run_eql_iface_nil_left _ _ _ Tryz.underlying67
  have hf1 : (w.alloc (.cells #[.int .i64 0, .int .i64 0, .nilIface] 129)).cell? ⟨1, 0, none⟩ = some (.iface 324 (.pointer (some ep))) := (World.cell?_alloc_lt _ _ _ hfl).trans hf
  clear hf
  go_enter Tryz.func47, Tryz.ntmps47
  go_wp2
  go_ret2
  exact ⟨rfl, by go_grown⟩

theorem read_line {s : List UInt8} {ss : List (List UInt8)} {k : Int} {loose : Bool} (h : (readB s ss k loose).2.2 = 0) : (readB s ss k loose).2.1 = 0 := by
  obtain ⟨_, _, _, out, _, he, _⟩ := read_ok h
  rw [he]

set_option maxHeartbeats 4000000 in
theorem prop_Read (A : Option Addr) (n c : Nat) (k : Int) (loose : Bool) (ss : List (List UInt8)) (s : List UInt8) (w : World) (hG : GlobP w) (hz : Strs w w.heap.size A n ss) (hn : n ≤ 1000000) (hs : ∀ x ∈ ss, x.length ≤ 1000000) (hl : s.length ≤ 20000) :
    Calls Tryz.prog 15 #[.string ⟨s.toArray⟩, .slice A n c, .int .i64 k, .bool loose] w fun e w' => ∃ A' n' c', e = .returned (.tuple #[.slice A' n' c', .int .i64 (readB s ss k loose).2.1, .int .i64 (readB s ss k loose).2.2]) ∧ n' ≤ c' ∧
      Rgs w' w'.heap.size A' n' (readB s ss k loose).1 ∧ Below w.heap.size w w' := by
  have hof := prop_of A n c ss w hn hz
  obtain ⟨ep, hef⟩ := hG.ef
  have hrd := fun (W : World) (hW : Below w.heap.size w W) (r ck : Nat) (es : Array MapEntry) (hr : W.heap[r]? = some (.map es ck)) (ha : Asc es (kvOf ss 0)) =>
    have hbA : Below W.heap.size W (W.alloc (.cells (rdCs A n c r k loose none 0 0) 75)) := by go_grown
    have hws := hW.size
    have hrl := (Array.getElem?_eq_some_iff.1 hr).1
    prop_read W.heap.size r ck n c A k loose es ss s ep (W.alloc (.cells (rdCs A n c r k loose none 0 0) 75)) (heap_new rfl) (Nat.lt_of_lt_of_le hG.elt hws) ((cellOf hbA (Nat.lt_of_lt_of_le hG.elt hws)).trans ((cellOf hW hG.elt).trans hef))
      ((hG.f.below hW).below hbA) (((hz.below hW).more hws).below hbA |>.more hbA.size) hn hs ((hbA.block r hrl).trans hr) ha hl
  have hG2 := hG
  have hbad := @read_bad s ss k loose
  have hline := @read_line s ss k loose
  generalize readB s ss k loose = rr at *
  have Hof := Lib.hid hof
  have Hrd := Lib.hid hrd
  have HG := Lib.hid hG2
  have Hef := Lib.hid hef
  have Hbad := Lib.hid hbad
  have Hline := Lib.hid hline
  clear hof hrd hG hG2 hef hz hs hbad hline
  go_enter Tryz.func15, Tryz.ntmps15
  go_wp2_with fail
  refine Hof.out.mono ?_
  rintro e w1 ⟨r, es, ck, rfl, hr, ha, hb1⟩
  have hrd := Hrd.out w1 hb1 r ck es hr ha
  have Hrd2 := Lib.hid hrd
  clear hrd hr ha
  unfold rdCs at Hrd2
  go_wp2_with fail
  refine Hrd2.out.mono ?_
  rintro e w2 ⟨he, hap⟩
  have hb2 : Below w.heap.size w w2 := hb1.trans (Below.mono (show Below w1.heap.size w1 w2 from
    (show Below w1.heap.size w1 (w1.alloc (.cells #[.slice A n c, .map (some r), .int .i64 k, .bool loose, .slice none 0 0] 75)) by go_grown).trans ⟨hap.os, hap.tape, hap.output, hap.size, fun k hk => hap.block k (by simp; omega) (by omega)⟩) hb1.size)
  have hG2 := HG.out.below hb2
  have hef2 := (cellOf hb2 HG.out.elt).trans Hef.out
  rcases he with ⟨h0, A', n', c', rfl, hnc, hrg⟩ | ⟨h0, rfl⟩
  · have htd := prop_told_nil ep w2 hef2 hG2.elt
    have hl0 := Hline.out h0
    have Htd := Lib.hid htd
    have Hrg := Lib.hid hrg
    have Hl0 := Lib.hid hl0
    have H0 := Lib.hid h0
    clear htd hrg hl0 h0 hap hef2
    go_wp2_with fail
    refine Htd.out.mono ?_
    rintro e w3 ⟨rfl, hb3⟩
    go_wp2_with fail
    go_ret3
    exact ⟨A', n', c', by rw [Hl0.out, H0.out]; rfl, hnc, (Hrg.out.below hb3).more hb3.size, hb2.trans (hb3.mono hb2.size)⟩
  · have htd := prop_told rr.2.1 rr.2.2 ep w2 hef2 hG2.elt hG2.f.typ hG2.f.tlt
    have hl0 := Hbad.out h0
    have Htd := Lib.hid htd
    have Hl0 := Lib.hid hl0
    clear htd hl0 h0 hap hef2
    go_wp2_with fail
    refine Htd.out.mono ?_
    rintro e w3 ⟨rfl, hb3⟩
    go_wp2_with fail
    go_ret3
    exact ⟨none, 0, 0, rfl, Nat.le_refl _, by rw [Hl0.out]; exact Rgs.nil _ _ _, hb2.trans (hb3.mono hb2.size)⟩

set_option maxHeartbeats 4000000 in
theorem prop_Of (A : Option Addr) (n c : Nat) (ss : List (List UInt8)) (s : List UInt8) (r : Int) (w : World) (hG : GlobP w) (hz : Strs w w.heap.size A n ss) (hn : n ≤ 1000000) (hs : ∀ x ∈ ss, x.length ≤ 1000000) (hl : s.length ≤ 20000) :
    Calls Tryz.prog 17 #[.string ⟨s.toArray⟩, .slice A n c, .int .i64 r] w fun e w' => e = .returned (.tuple #[.string ⟨(ofB s ss r).1.toArray⟩, .int .i64 (ofB s ss r).2]) ∧ Below w.heap.size w w' := by
  have hrd := prop_Read A n c 0 false ss s w hG hz hn hs hl
  have hnm := @of_named s ss r
  have hm := @read_map s ss 0 false
  obtain ⟨O, hO⟩ : ∃ O, O = ofB s ss r := ⟨_, rfl⟩
  unfold ofB at hO hnm
  rw [show ofB s ss r = O from hO.symm]
  generalize readB s ss 0 false = rr at *
  have hfd := fun (W : World) (A' : Option Addr) (n' c' : Nat) (hx : Rgs W W.heap.size A' n' rr.1) (hn' : n' ≤ 1000000) => span_Find A' n' c' rr.1 r W hx hn'
  generalize hv : (findR rr.1 r).getD 0 = v at *
  generalize (findR rr.1 r).isSome = b at *
  have Hrd := Lib.hid hrd
  have Hfd := Lib.hid hfd
  have HO := Lib.hid hO
  have Hnm := Lib.hid hnm
  have Hm := Lib.hid hm
  have Hz := Lib.hid hz
  clear hrd hfd hO hnm hm hz hG hs
  go_enter Tryz.func17, Tryz.ntmps17
  go_wp2_with fail
  refine Hrd.out.mono ?_
  rintro e w1 ⟨A', n', c', rfl, hnc, hrg, hb1⟩
  by_cases h0 : rr.2.2 = 0
  · have hne : (rr.2.2 != 0) = false := by simp [h0]
    have hO := HO.out
    rw [if_pos h0] at hO
    have hb := (Hnm.out h0).1
    have hl2 := (Hm.out h0).2.1
    have hf1 := Hfd.out w1 A' n' c' hrg (by have := hrg.len; omega)
    have hlen := Hz.out.len
    obtain ⟨zb, zo, rfl, hzb, hzc⟩ := Hz.out.at_ (by omega)
    obtain ⟨vn, rfl⟩ : ∃ vn : Nat, v = (vn : Int) := ⟨v.toNat, by omega⟩
    have hvl : vn < ss.length := by omega
    have hz1 := (cellOf hb1 hzb).trans (hzc vn hvl)
    obtain ⟨t, ht⟩ : ∃ t, t = ss[vn] := ⟨_, rfl⟩
    have hO2 : O = (t, 0) := by rw [hO, ht]; simp [List.getD_eq_getElem?_getD, hvl]
    rw [← ht] at hz1
    have Ht := Lib.hid ht
    subst hO2
    clear ht
    have Hf1 := Lib.hid hf1
    have H0 := Lib.hid h0
    have hvn : vn < n := by omega
    clear hf1 hO h0 hrg hzc hl2 hb HO
    go_wp2_with fail
    refine Hf1.out.mono ?_
    rintro e w2 ⟨rfl, hb2⟩
    have hz2 := (cellOf hb2 (by have := hb1.size; omega)).trans hz1
    go_wp2_with fail
    go_ret2
    exact ⟨rfl, hb1.trans (hb2.mono hb1.size)⟩
  · have hne : (rr.2.2 != 0) = true := by simpa using h0
    have hO := HO.out
    rw [if_neg h0] at hO
    subst hO
    clear hrg h0 HO
    go_wp2_with fail
    go_ret2
    exact ⟨rfl, hb1⟩
end Go.Vir


/- strings.Builder.WriteByte, laid by hand (as WriteString in ShelfC). -/
namespace Go.Proofs
open Go.Shelf
def Tryz.lays167_ren : Go.Shelf.Ren := ⟨fun | 167 => 120 | 240 => 150 | 276 => 169 | n => n, fun | 0 => 0 | 3 => 3 | 4 => 4 | 5 => 5 | 9 => 9 | 20 => 20 | 37 => 167 | 70 => 166 | 72 => 169 | 75 => 67 | 76 => 170 | 80 => 174 | 164 => 188 | n => n, fun | n => n⟩
theorem Tryz.lays167 : Go.Proofs.Lays.n167 Tryz.prog Tryz.lays167_ren := {
  mixed := by kernel_rfl
  f167 := Tryz.func120.trans (congrArg some (by kernel_rfl))
  f240 := Tryz.func150.trans (congrArg some (by kernel_rfl))
  f276 := Tryz.func169.trans (congrArg some (by kernel_rfl))
  t0 := Tryz.underlying0
  a0 := Tryz.isAgg0
  z0 := Tryz.sizeOf0
  v0 := Tryz.zeroValue0
  t4 := Tryz.underlying4
  a4 := Tryz.isAgg4
  z4 := Tryz.sizeOf4
  v4 := Tryz.zeroValue4
  t5 := Tryz.underlying5
  a5 := Tryz.isAgg5
  z5 := Tryz.sizeOf5
  v5 := Tryz.zeroValue5
  t9 := Tryz.underlying9
  a9 := Tryz.isAgg9
  z9 := Tryz.sizeOf9
  v9 := Tryz.zeroValue9
  t20 := Tryz.underlying20
  a20 := Tryz.isAgg20
  z20 := Tryz.sizeOf20
  v20 := Tryz.zeroValue20
  t37 := Tryz.underlying167
  a37 := Tryz.isAgg167
  z37 := Tryz.sizeOf167
  v37 := Tryz.zeroValue167
  t70 := Tryz.underlying166
  a70 := Tryz.isAgg166
  z70 := Tryz.sizeOf166
  v70 := Tryz.zeroValue166
  t72 := Tryz.underlying169
  a72 := Tryz.isAgg169
  z72 := Tryz.sizeOf169
  v72 := Tryz.zeroValue169
  t75 := Tryz.underlying67
  a75 := Tryz.isAgg67
  z75 := Tryz.sizeOf67
  v75 := Tryz.zeroValue67
  t164 := Tryz.underlying188
  a164 := Tryz.isAgg188
  z164 := Tryz.sizeOf188
  v164 := Tryz.zeroValue188 }
theorem Tryz.Builder_Extra_167 : Builder.Extra Tryz.prog Tryz.lays167_ren := {
  sizeBuilder := by kernel_rfl
  liesBuilder := by kernel_rfl
  t5 := Tryz.underlying5
  a5 := Tryz.isAgg5
  z5 := Tryz.sizeOf5
  v5 := Tryz.zeroValue5
  infoByte := by kernel_rfl
  cellsByte := by kernel_rfl
  sizeByte := by kernel_rfl
  neB5 := by decide }
open Go.RowKit in
theorem Tryz.Builder_WriteByte_k (B b : Nat) (bs : List Value) (c : Int) (w : World) (h : Lib.IsBuilderF 169 5 B b bs w) (hlen : bs.length + 1 ≤ 140737488355328) (hBw : B ≤ w.heap.size) :
    Calls Tryz.prog 120 #[.pointer (some ⟨b, 0, none⟩), .int .u8 c] w fun e w' => e = .returned .nilIface ∧ (Lib.BuilderAtF 169 5 B b (.pointer (some ⟨b, 0, none⟩)) (bs ++ [.int .u8 c]) w' ∧ Below B w w' ∧ Lib.OthersKept 5 (some b) w w') := Any.Builder_WriteByte_k Tryz.lays167 Tryz.Builder_Extra_167 B b bs c w h hlen hBw
end Go.Proofs


/- field.code, field.Print at what law05's shown writes. -/
namespace Go.Vir
open Go Go.RowKit Go.Proofs Go.Shelf
attribute [local go_sem] Oper.semAt_some

set_option maxRecDepth 100000 in
set_option maxHeartbeats 2000000 in
theorem code_768 (w : World) : Calls Tryz.prog 119 #[.int .i64 768] w fun e w' => e = .returned (.string ⟨#[48, 51, 48, 48]⟩) ∧ Below w.heap.size w w' := by
  go_enter Tryz.func119, Tryz.ntmps119
  go_wp2_with fail
  refine wp_loop_rounds 4 ?_
  rw [rounds_succ]
  go_wp2_with fail
  rw [rounds_succ]
  go_wp2_with fail
  rw [rounds_succ]
  go_wp2_with fail
  rw [rounds_succ]
  go_wp2_with fail
  go_ret
  exact ⟨rfl, by go_grown⟩
set_option maxRecDepth 100000 in
set_option maxHeartbeats 2000000 in
theorem code_879 (w : World) : Calls Tryz.prog 119 #[.int .i64 879] w fun e w' => e = .returned (.string ⟨#[48, 51, 54, 70]⟩) ∧ Below w.heap.size w w' := by
  go_enter Tryz.func119, Tryz.ntmps119
  go_wp2_with fail
  refine wp_loop_rounds 4 ?_
  rw [rounds_succ]
  go_wp2_with fail
  rw [rounds_succ]
  go_wp2_with fail
  rw [rounds_succ]
  go_wp2_with fail
  rw [rounds_succ]
  go_wp2_with fail
  go_ret
  exact ⟨rfl, by go_grown⟩

/-- A builder and a record behind it. -/
structure PrSt (w : World) (cs : Array Value) (txt : List UInt8) (W : World) : Prop where
  bl : Below w.heap.size w W
  bd : Lib.IsBuilderF 169 5 w.heap.size w.heap.size (Lib.byteCells txt) W
  rc : W.heap[w.heap.size + 1]? = some (.cells cs 82 (0, 0))
theorem PrSt.below {w W W' : World} {cs : Array Value} {txt : List UInt8} (h : PrSt w cs txt W) (hb : Below W.heap.size W W') : PrSt w cs txt W' :=
  ⟨h.bl.trans (hb.mono h.bl.size), isBld_below h.bd hb, (hb.block _ (Array.getElem?_eq_some_iff.1 h.rc).1).trans h.rc⟩
theorem PrSt.write {w W : World} {cs : Array Value} {txt : List UInt8} (h : PrSt w cs txt W) (s : ByteArray) (l : List UInt8) (hs : s = ⟨l.toArray⟩) (h1 : txt.length ≤ 1000) (h2 : l.length ≤ 1000) :
    Calls Tryz.prog 118 #[.pointer (some ⟨w.heap.size, 0, none⟩), .string s] W fun e w' => e = .returned (.tuple #[.int .i64 s.size, .nilIface]) ∧ PrSt w cs (txt ++ l) w' := by
  have hw := Tryz.Builder_WriteString_k w.heap.size w.heap.size _ s W h.bd (by rw [Lib.byteCells_length, hs]; show _ + l.toArray.size ≤ _; simp; omega) h.bl.size
  refine hw.mono ?_
  rintro e w' ⟨rfl, hI, hb, ho⟩
  refine ⟨rfl, h.bl.trans hb, ?_, ho _ _ h.rc (by simp) (fun c fz e => by cases e)⟩
  rw [Lib.byteCells_append]
  rw [hs] at hI
  exact Or.inr hI
theorem PrSt.byte {w W : World} {cs : Array Value} {txt : List UInt8} (h : PrSt w cs txt W) (h1 : txt.length ≤ 1000) :
    Calls Tryz.prog 120 #[.pointer (some ⟨w.heap.size, 0, none⟩), .int .u8 10] W fun e w' => e = .returned .nilIface ∧ PrSt w cs (txt ++ [10]) w' := by
  have hw := Tryz.Builder_WriteByte_k w.heap.size w.heap.size _ 10 W h.bd (by rw [Lib.byteCells_length]; omega) h.bl.size
  refine hw.mono ?_
  rintro e w' ⟨rfl, hI, hb, ho⟩
  refine ⟨rfl, h.bl.trans hb, ?_, ho _ _ h.rc (by simp) (fun c fz e => by cases e)⟩
  rw [Lib.byteCells_append]
  exact Or.inr hI

def shRec : RecV := { line := 0, f := 768, t := 879, fs := [[69, 120, 116, 101, 110, 100]] }
set_option maxRecDepth 100000 in
set_option maxHeartbeats 4000000 in
theorem print_sh (A : Option Addr) (c : Nat) (w : World) (hz : Recs w w.heap.size A 1 [shRec]) :
    Calls Tryz.prog 80 #[.slice A 1 c] w fun e w' => e = .returned (.string ⟨#[48, 51, 48, 48, 46, 46, 48, 51, 54, 70, 59, 69, 120, 116, 101, 110, 100, 10]⟩) ∧ Below w.heap.size w w' := by
  obtain ⟨rb, ro, rfl, hrb, hrc⟩ := hz.at_ (by omega)
  obtain ⟨Af, nf, cf, r0, r1, r2, r3, hfs, _⟩ := hrc 0 (by simp)
  obtain rfl : nf = 1 := hfs.len.symm
  obtain ⟨fb, fo, rfl, hfb, hfc⟩ := hfs.at_ (by omega)
  have f0 := hfc 0 (by simp [shRec])
  simp only [shRec, List.getElem_cons_zero, Nat.zero_mul, Nat.add_zero] at r0 r1 r2 r3 f0
  have hI0 := Lib.IsBuilderF.of (Lib.fresh_isBuilder 169 5 w)
  have HI0 := Lib.hid hI0
  have H7 := Lib.hid code_768
  have H8 := Lib.hid code_879
  clear hI0 hrc hfs hfc hz
  have hP0 : PrSt w #[.int .i64 0, .int .i64 768, .int .i64 879, .slice (some ⟨fb, fo, none⟩) 1 cf] [] ((w.alloc (.cells #[.pointer none, .slice none 0 0] 169)).alloc (.cells #[.int .i64 0, .int .i64 768, .int .i64 879, .slice (some ⟨fb, fo, none⟩) 1 cf] 82)) :=
    ⟨by go_grown, isBld_below HI0.out ((Below.refl _ _).alloc (Nat.le_refl _) _), heap_new (by simp)⟩
  have HP0 := Lib.hid hP0
  clear hP0 HI0
  go_enter Tryz.func80, Tryz.ntmps80
  go_wp2_with fail
  refine wp_loop_rounds 2 ?_
  rw [rounds_succ]
  go_wp2_with fail
  refine (H7.out _).mono ?_
  rintro e w1 ⟨rfl, hb1⟩
  have p1 := HP0.out.below hb1
  have p11 := cell_blk p1.rc 1
  have p12 := cell_blk p1.rc 2
  have p13 := cell_blk p1.rc 3
  have p1f := (cellOf p1.bl hfb).trans f0
  simp only [List.getElem?_toArray, List.getElem?_cons_zero, List.getElem?_cons_succ] at p11 p12 p13
  have q1 := Lib.hid (p1.write ⟨#[48, 51, 48, 48]⟩ [48, 51, 48, 48] rfl (by decide) (by decide))
  clear p1 hb1
  go_wp2_with fail
  refine q1.out.mono ?_
  rintro e w2 ⟨rfl, p2⟩
  clear p11 p12 p13 p1f
  have p21 := cell_blk p2.rc 1
  have p22 := cell_blk p2.rc 2
  have p23 := cell_blk p2.rc 3
  have p2f := (cellOf p2.bl hfb).trans f0
  simp only [List.getElem?_toArray, List.getElem?_cons_zero, List.getElem?_cons_succ] at p21 p22 p23
  have P2 := Lib.hid p2
  clear p2
  go_wp2_with fail
  refine (H8.out _).mono ?_
  rintro e w3 ⟨rfl, hb3⟩
  have p3 := P2.out.below hb3
  clear p21 p22 p23 p2f
  have p31 := cell_blk p3.rc 1
  have p32 := cell_blk p3.rc 2
  have p33 := cell_blk p3.rc 3
  have p3f := (cellOf p3.bl hfb).trans f0
  simp only [List.getElem?_toArray, List.getElem?_cons_zero, List.getElem?_cons_succ] at p31 p32 p33
  have q3 := Lib.hid (p3.write (⟨#[46, 46]⟩ ++ ⟨#[48, 51, 54, 70]⟩) [46, 46, 48, 51, 54, 70] (by rw [bytes_app]; rfl) (by decide) (by decide))
  clear p3 hb3
  go_wp2_with fail
  refine q3.out.mono ?_
  rintro e w4 ⟨rfl, p4⟩
  clear p31 p32 p33 p3f
  have p41 := cell_blk p4.rc 1
  have p42 := cell_blk p4.rc 2
  have p43 := cell_blk p4.rc 3
  have p4f := (cellOf p4.bl hfb).trans f0
  simp only [List.getElem?_toArray, List.getElem?_cons_zero, List.getElem?_cons_succ] at p41 p42 p43
  have q4 := Lib.hid (p4.write (⟨#[59]⟩ ++ ⟨#[69, 120, 116, 101, 110, 100]⟩) [59, 69, 120, 116, 101, 110, 100] (by rw [bytes_app]; rfl) (by decide) (by decide))
  clear p4
  go_wp2_with fail
  refine wp_loop_rounds 2 ?_
  rw [rounds_succ]
  go_wp2_with fail
  refine q4.out.mono ?_
  rintro e w5 ⟨rfl, p5⟩
  have P5 := Lib.hid p5
  clear p41 p42 p43 p4f
  clear p5
  go_wp2_with fail
  rw [rounds_succ]
  have q5 := Lib.hid (P5.out.byte (by decide))
  go_wp2_with fail
  refine q5.out.mono ?_
  rintro e w6 ⟨rfl, p6⟩
  have P6 := Lib.hid p6
  clear p6
  go_wp2_with fail
  rw [rounds_succ]
  have hst := Lib.hid (Tryz.Builder_String_any_k w.heap.size w.heap.size _ w6 P6.out.bd P6.out.bl.size)
  go_wp2_with fail
  refine hst.out.mono ?_
  rintro e w7 ⟨rfl, _, hb7, _⟩
  go_wp2_with fail
  go_ret
  exact ⟨rfl, P6.out.bl.trans hb7⟩
end Go.Vir


/- prop.Write at what law05's shown writes. -/
namespace Go.Vir
open Go Go.RowKit Go.Proofs Go.Shelf
attribute [local go_sem] Oper.semAt_some

theorem strs_one (V : World) (t : List UInt8) : Strs (V.alloc (.cells #[.string ⟨t.toArray⟩] 9)) (V.alloc (.cells #[.string ⟨t.toArray⟩] 9)).heap.size (some ⟨V.heap.size, 0, none⟩) 1 [t] :=
  ⟨rfl, fun _ => ⟨V.heap.size, 0, rfl, by simp, fun j hj => by
    obtain rfl : j = 0 := by simpa using hj
    exact cell_blk (heap_new rfl) 0⟩⟩
theorem write1 (x : Rg) (b : Nat) (zb zo cn : Nat) (W : World) (hb : W.cell? ⟨b, 0, none⟩ = some (.slice (some ⟨zb, zo, none⟩) 2 cn)) (hlt : b < W.heap.size) :
    Calls Tryz.prog 79 #[encR x, .pointer (some ⟨b, 0, none⟩)] W fun e w' => e = .returned (.bool (decide (x.v ≥ 2))) ∧ Below W.heap.size W w' := by
  obtain ⟨f, t, v⟩ := x
  simp only [encR]
  generalize hd : decide (v ≥ 2) = d
  go_enter Tryz.func79, Tryz.ntmps79
  go_wp2_with fail
  go_ret
  exact ⟨ret_bool (by first | (rw [← hd]; done) | (rw [← hd]; simp)), by go_grown⟩

def shN : List (List UInt8) := [[79, 116, 104, 101, 114], [69, 120, 116, 101, 110, 100]]
def shG : List Rg := [{ f := 768, t := 879, v := 1 }]
set_option maxRecDepth 100000 in
set_option maxHeartbeats 4000000 in
theorem write_sh (A : Option Addr) (c : Nat) (A2 : Option Addr) (cn : Nat) (w : World) (hx : Rgs w w.heap.size A 1 shG) (hz : Strs w w.heap.size A2 2 shN) :
    Calls Tryz.prog 44 #[.slice A 1 c, .slice A2 2 cn] w fun e w' => e = .returned (.tuple #[.string ⟨#[48, 51, 48, 48, 46, 46, 48, 51, 54, 70, 59, 69, 120, 116, 101, 110, 100, 10]⟩, .int .i64 0]) ∧ Below w.heap.size w w' := by
  obtain ⟨i0, hi0, hz0, hz1, hz2⟩ := info_parts rec_info
  have hnm := fun (W : World) (hW : Below w.heap.size w W) => prop_Names A2 2 cn shN W (by omega) ((hz.below hW).more hW.size) (by decide)
  have hrt := fun (W : World) (hW : Below w.heap.size w W) => span_Right A 1 c shG W ((hx.below hW).more hW.size) (by omega) (by decide)
  obtain ⟨b, o, rfl, hb, hc⟩ := hx.at_ (by omega)
  obtain ⟨zb, zo, rfl, hzb, hzc⟩ := hz.at_ (by omega)
  have u0 := (hc 0 (by decide)).1
  have u1 := (hc 0 (by decide)).2.1
  have u2 := (hc 0 (by decide)).2.2
  have z1 := hzc 1 (by decide)
  simp only [shG, shN, List.getElem_cons_zero, List.getElem_cons_succ, Nat.zero_mul, Nat.add_zero] at u0 u1 u2 z1
  rw [show namesB shN = true by decide] at hnm
  have hcf := fun (W : World) (hW : Below w.heap.size w W) (hB : W.cell? ⟨w.heap.size, 0, none⟩ = some (.slice (some ⟨zb, zo, none⟩) 2 cn)) (hlt : w.heap.size < W.heap.size) =>
    containsFunc_rg (p := fun x => decide (x.v ≥ 2)) (lb := #[.pointer (some ⟨w.heap.size, 0, none⟩)]) (some ⟨b, o, none⟩) 1 c shG W (enters_of Tryz.func79 (by kernel_rfl) rfl) ((hx.below hW).more hW.size) (fun x W' hW' => write1 x w.heap.size zb zo cn W' ((cellOf hW' hlt).trans hB) (Nat.lt_of_lt_of_le hlt hW'.size)) (by omega)
  rw [show shG.any (fun x => decide (x.v ≥ 2)) = false by decide] at hcf
  have hb0 : Below w.heap.size w (w.alloc (.cells #[.slice (some ⟨zb, zo, none⟩) 2 cn] 22)) := by go_grown
  have hB0 : (w.alloc (.cells #[.slice (some ⟨zb, zo, none⟩) 2 cn] 22)).cell? ⟨w.heap.size, 0, none⟩ = some (.slice (some ⟨zb, zo, none⟩) 2 cn) := cell_blk (heap_new rfl) 0
  have hs0 : w.heap.size < (w.alloc (.cells #[.slice (some ⟨zb, zo, none⟩) 2 cn] 22)).heap.size := by simp
  have Hnm := Lib.hid hnm
  have Hrt := Lib.hid hrt
  have Hcf := Lib.hid hcf
  clear hnm hrt hcf hx hz hc hzc
  go_enter Tryz.func44, Tryz.ntmps44
  go_upto_region 1 with fail
  generalize w.alloc (.cells #[.slice (some ⟨zb, zo, none⟩) 2 cn] 22) = w0 at *
  go_wp2_with fail
  refine (Hnm.out w0 hb0).mono ?_
  rintro e w1 ⟨rfl, hb1⟩
  have hbw1 := hb0.trans (hb1.mono hb0.size)
  have hB1 := (cellOf hb1 hs0).trans hB0
  go_wp2_with fail
  refine (Hrt.out w1 hbw1).mono ?_
  rintro e w2 ⟨rfl, hb2⟩
  have hbw2 := hbw1.trans (hb2.mono hbw1.size)
  have hs1 : w.heap.size < w1.heap.size := by have := hb1.size; omega
  have hB2 := (cellOf hb2 hs1).trans hB1
  have hs2 : w.heap.size < w2.heap.size := by have := hb2.size; omega
  go_wp2_with fail
  refine (Hcf.out w2 hbw2 hB2 hs2).mono ?_
  rintro e w4 ⟨rfl, hb4⟩
  have hbw4 := hbw2.trans (hb4.mono hbw2.size)
  have hB4 := (cellOf hb4 hs2).trans hB2
  have hs4 : w.heap.size < w4.heap.size := by have := hb4.size; omega
  have u0 := (cellOf hbw4 hb).trans u0
  have u1 := (cellOf hbw4 hb).trans u1
  have u2 := (cellOf hbw4 hb).trans u2
  have z1 := (cellOf hbw4 hzb).trans z1
  clear hB0 hB1 hB2 hs0 hs1 hs2 hb1 hb2 hb4 hb0 hbw1 hbw2
  go_wp2_with fail
  refine wp_loop_rounds 2 ?_
  rw [rounds_succ]
  go_upto_region 9 with fail
  have hbW : Below w4.heap.size w4 (w4.alloc (.cells #[.int .i64 768, .int .i64 879, .int .i64 1] 65)) := (Below.refl _ w4).alloc (Nat.le_refl _) _
  have hbk : (w4.alloc (.cells #[.int .i64 768, .int .i64 879, .int .i64 1] 65)).heap[w4.heap.size]? = some (.cells #[.int .i64 768, .int .i64 879, .int .i64 1] 65 (0, 0)) := heap_new rfl
  have hpW : w4.heap.size < (w4.alloc (.cells #[.int .i64 768, .int .i64 879, .int .i64 1] 65)).heap.size := by simp
  have x3 := (cellOf hbW hs4).trans hB4
  have x4 := (cellOf hbW (show zb < w4.heap.size by omega)).trans z1
  generalize w4.alloc (.cells #[.int .i64 768, .int .i64 879, .int .i64 1] 65) = W at hbW hbk hpW x3 x4 ⊢
  have x0 : W.cell? ⟨w4.heap.size, 0, none⟩ = some (.int .i64 768) := cell_blk hbk 0
  have x1 : W.cell? ⟨w4.heap.size, 1, none⟩ = some (.int .i64 879) := cell_blk hbk 1
  have x2 : W.cell? ⟨w4.heap.size, 2, none⟩ = some (.int .i64 1) := cell_blk hbk 2
  clear u0 u1 u2 z1 hB4
  refine wp_region_noPanic ?_
  refine wp_region_held_drew (S := (fun V => V.cell? ⟨w4.heap.size, 0, none⟩ = some (.int .i64 768) ∧ V.cell? ⟨w4.heap.size, 1, none⟩ = some (.int .i64 879) ∧ V.cell? ⟨w4.heap.size, 2, none⟩ = some (.int .i64 1) ∧ V.cell? ⟨w.heap.size, 0, none⟩ = some (.slice (some ⟨zb, zo, none⟩) 2 cn) ∧ V.cell? ⟨zb, zo + 1, none⟩ = some (.string ⟨#[69, 120, 116, 101, 110, 100]⟩))) (by kernel_rfl) ⟨x0, x1, x2, x3, x4⟩ (fun hHeld => ?_)
  have hb0V : Below w4.heap.size w4 W.drew := hbW.drew
  have hszV : w4.heap.size < W.drew.heap.size := hpW
  generalize W.drew = V0 at hHeld hb0V hszV ⊢
  refine wpAnyH_take (i := 0) (v := .slice none 0 0) rfl (by kernel_rfl) (by kernel_rfl) (by kernel_rfl) (fun _ _ _ h => h) (.inl ⟨by rfl, fun V hV => by obtain ⟨c0, c1, c2, c3, c4⟩ := hV; go_simp⟩) hHeld ?_
  try simp only [Act.put, List.getElem_toArray, List.getElem_cons_zero, List.setIfInBounds_toArray, List.set_cons_zero, List.set_cons_succ]
  refine wpAnyH_take (i := 1) (v := .pointer (some ⟨w4.heap.size, 0, none⟩)) rfl (by kernel_rfl) (by kernel_rfl) (by kernel_rfl) (fun _ _ _ h => h) (.inl ⟨by rfl, fun V hV => by obtain ⟨c0, c1, c2, c3, c4⟩ := hV; go_simp⟩) hHeld ?_
  try simp only [Act.put, List.getElem_toArray, List.getElem_cons_zero, List.getElem_cons_succ, List.setIfInBounds_toArray, List.set_cons_zero, List.set_cons_succ]
  refine wpAnyH_take (i := 2) (v := .int .i64 768) rfl (by kernel_rfl) (by kernel_rfl) (by kernel_rfl) (fun _ _ _ h => h) (.inl ⟨by rfl, fun V hV => by obtain ⟨c0, c1, c2, c3, c4⟩ := hV; go_simp⟩) hHeld ?_
  try simp only [Act.put, List.getElem_toArray, List.getElem_cons_zero, List.getElem_cons_succ, List.setIfInBounds_toArray, List.set_cons_zero, List.set_cons_succ]
  refine wpAnyH_take (i := 3) (v := .pointer (some ⟨w4.heap.size, 1, none⟩)) rfl (by kernel_rfl) (by kernel_rfl) (by kernel_rfl) (fun _ _ _ h => h) (.inl ⟨by rfl, fun V hV => by obtain ⟨c0, c1, c2, c3, c4⟩ := hV; go_simp⟩) hHeld ?_
  try simp only [Act.put, List.getElem_toArray, List.getElem_cons_zero, List.getElem_cons_succ, List.setIfInBounds_toArray, List.set_cons_zero, List.set_cons_succ]
  refine wpAnyH_take (i := 4) (v := .int .i64 879) rfl (by kernel_rfl) (by kernel_rfl) (by kernel_rfl) (fun _ _ _ h => h) (.inl ⟨by rfl, fun V hV => by obtain ⟨c0, c1, c2, c3, c4⟩ := hV; go_simp⟩) hHeld ?_
  try simp only [Act.put, List.getElem_toArray, List.getElem_cons_zero, List.getElem_cons_succ, List.setIfInBounds_toArray, List.set_cons_zero, List.set_cons_succ]
  refine wpAnyH_take (i := 5) (v := .slice (some ⟨zb, zo, none⟩) 2 cn) rfl (by kernel_rfl) (by kernel_rfl) (by kernel_rfl) (fun _ _ _ h => h) (.inl ⟨by rfl, fun V hV => by obtain ⟨c0, c1, c2, c3, c4⟩ := hV; go_simp⟩) hHeld ?_
  try simp only [Act.put, List.getElem_toArray, List.getElem_cons_zero, List.getElem_cons_succ, List.setIfInBounds_toArray, List.set_cons_zero, List.set_cons_succ]
  refine wpAnyH_take (i := 6) (v := .pointer (some ⟨w4.heap.size, 2, none⟩)) rfl (by kernel_rfl) (by kernel_rfl) (by kernel_rfl) (fun _ _ _ h => h) (.inl ⟨by rfl, fun V hV => by obtain ⟨c0, c1, c2, c3, c4⟩ := hV; go_simp⟩) hHeld ?_
  try simp only [Act.put, List.getElem_toArray, List.getElem_cons_zero, List.getElem_cons_succ, List.setIfInBounds_toArray, List.set_cons_zero, List.set_cons_succ]
  refine wpAnyH_take (i := 7) (v := .int .i64 1) rfl (by kernel_rfl) (by kernel_rfl) (by kernel_rfl) (fun _ _ _ h => h) (.inl ⟨by rfl, fun V hV => by obtain ⟨c0, c1, c2, c3, c4⟩ := hV; go_simp⟩) hHeld ?_
  try simp only [Act.put, List.getElem_toArray, List.getElem_cons_zero, List.getElem_cons_succ, List.setIfInBounds_toArray, List.set_cons_zero, List.set_cons_succ]
  refine wpAnyH_take (i := 8) (v := .pointer (some ⟨zb, zo + 1, none⟩)) rfl (by kernel_rfl) (by kernel_rfl) (by kernel_rfl) (fun _ _ _ h => h) (.inl ⟨by rfl, fun V hV => by obtain ⟨c0, c1, c2, c3, c4⟩ := hV; go_simp⟩) hHeld ?_
  try simp only [Act.put, List.getElem_toArray, List.getElem_cons_zero, List.getElem_cons_succ, List.setIfInBounds_toArray, List.set_cons_zero, List.set_cons_succ]
  refine wpAnyH_take (i := 9) (v := .string ⟨#[69, 120, 116, 101, 110, 100]⟩) rfl (by kernel_rfl) (by kernel_rfl) (by kernel_rfl) (fun _ _ _ h => h) (.inl ⟨by rfl, fun V hV => by obtain ⟨c0, c1, c2, c3, c4⟩ := hV; go_simp⟩) hHeld ?_
  try simp only [Act.put, List.getElem_toArray, List.getElem_cons_zero, List.getElem_cons_succ, List.setIfInBounds_toArray, List.set_cons_zero, List.set_cons_succ]
  refine wpAnyH_ready (rs := [10]) (by kernel_rfl) (by simp) ?_
  refine AllReadyH.cons rfl (fun K hK => ?_) AllReadyH.nil
  go_simp
  have hbV1 : Below V0.heap.size V0 (V0.alloc (.cells #[.string ⟨#[69, 120, 116, 101, 110, 100]⟩] 9)) := (Below.refl _ V0).alloc (Nat.le_refl _) _
  have hs1 : Strs (V0.alloc (.cells #[.string ⟨#[69, 120, 116, 101, 110, 100]⟩] 9)) (V0.alloc (.cells #[.string ⟨#[69, 120, 116, 101, 110, 100]⟩] 9)).heap.size (some ⟨V0.heap.size, 0, none⟩) 1 [[69, 120, 116, 101, 110, 100]] := strs_one V0 _
  have hsz1 : (V0.alloc (.cells #[.string ⟨#[69, 120, 116, 101, 110, 100]⟩] 9)).heap.size = V0.heap.size + 1 := by simp
  generalize (V0.alloc (.cells #[.string ⟨#[69, 120, 116, 101, 110, 100]⟩] 9)) = V1 at hbV1 hs1 hsz1 ⊢
  have hV1 : V1.cell? ⟨w4.heap.size, 0, none⟩ = some (.int .i64 768) ∧ V1.cell? ⟨w4.heap.size, 1, none⟩ = some (.int .i64 879) ∧ V1.cell? ⟨w4.heap.size, 2, none⟩ = some (.int .i64 1) ∧ V1.cell? ⟨w.heap.size, 0, none⟩ = some (.slice (some ⟨zb, zo, none⟩) 2 cn) ∧ V1.cell? ⟨zb, zo + 1, none⟩ = some (.string ⟨#[69, 120, 116, 101, 110, 100]⟩) := ⟨(cellOf hbV1 (show w4.heap.size < V0.heap.size by omega)).trans hHeld.1, (cellOf hbV1 (show w4.heap.size < V0.heap.size by omega)).trans hHeld.2.1, (cellOf hbV1 (show w4.heap.size < V0.heap.size by omega)).trans hHeld.2.2.1, (cellOf hbV1 (show w.heap.size < V0.heap.size by omega)).trans hHeld.2.2.2.1, (cellOf hbV1 (show zb < V0.heap.size by omega)).trans hHeld.2.2.2.2⟩
  have Hs1 := Lib.hid hs1
  have HbV1 := Lib.hid hbV1
  clear hs1 hbV1
  refine hK.out _ _ hV1 (fun hHeld => ?_)
  clear hK K
  try simp only [Act.put, List.getElem_toArray, List.getElem_cons_zero, List.getElem_cons_succ, List.setIfInBounds_toArray, List.set_cons_zero, List.set_cons_succ]
  refine wpAnyH_take (i := 11) (v := .agg #[.int .i64 0, .int .i64 768, .int .i64 879, .slice (some ⟨V0.heap.size, 0, none⟩) 1 1]) rfl (by kernel_rfl) (by kernel_rfl) (by kernel_rfl) (fun _ _ _ h => h) (.inl ⟨by rfl, fun V hV => by obtain ⟨c0, c1, c2, c3, c4⟩ := hV; go_simp⟩) hHeld ?_
  try simp only [Act.put, List.getElem_toArray, List.getElem_cons_zero, List.getElem_cons_succ, List.setIfInBounds_toArray, List.set_cons_zero, List.set_cons_succ]
  refine wpAnyH_ready (rs := [12]) (by kernel_rfl) (by simp) ?_
  refine AllReadyH.cons rfl (fun K hK => ?_) AllReadyH.nil
  go_simp
  have hbV2 : Below V1.heap.size V1 (V1.alloc (.cells #[.int .i64 0, .int .i64 768, .int .i64 879, .slice (some ⟨V0.heap.size, 0, none⟩) 1 1] 82)) := (Below.refl _ V1).alloc (Nat.le_refl _) _
  have hcX := cell_four_new V1 (.int .i64 0) (.int .i64 768) (.int .i64 879) (.slice (some ⟨V0.heap.size, 0, none⟩) 1 1) 82
  have hsz2 : (V1.alloc (.cells #[.int .i64 0, .int .i64 768, .int .i64 879, .slice (some ⟨V0.heap.size, 0, none⟩) 1 1] 82)).heap.size = V1.heap.size + 1 := by simp
  generalize V1.alloc (.cells #[.int .i64 0, .int .i64 768, .int .i64 879, .slice (some ⟨V0.heap.size, 0, none⟩) 1 1] 82) = V2 at *
  have hV2 : V2.cell? ⟨w4.heap.size, 0, none⟩ = some (.int .i64 768) ∧ V2.cell? ⟨w4.heap.size, 1, none⟩ = some (.int .i64 879) ∧ V2.cell? ⟨w4.heap.size, 2, none⟩ = some (.int .i64 1) ∧ V2.cell? ⟨w.heap.size, 0, none⟩ = some (.slice (some ⟨zb, zo, none⟩) 2 cn) ∧ V2.cell? ⟨zb, zo + 1, none⟩ = some (.string ⟨#[69, 120, 116, 101, 110, 100]⟩) := ⟨(cellOf hbV2 (show w4.heap.size < V1.heap.size by omega)).trans hV1.1, (cellOf hbV2 (show w4.heap.size < V1.heap.size by omega)).trans hV1.2.1, (cellOf hbV2 (show w4.heap.size < V1.heap.size by omega)).trans hV1.2.2.1, (cellOf hbV2 (show w.heap.size < V1.heap.size by omega)).trans hV1.2.2.2.1, (cellOf hbV2 (show zb < V1.heap.size by omega)).trans hV1.2.2.2.2⟩
  have HcX := Lib.hid hcX
  have HbV2 := Lib.hid hbV2
  clear hcX hbV2
  refine hK.out _ _ hV2 (fun hHeld => ?_)
  clear hK K
  try simp only [Act.put, List.getElem_toArray, List.getElem_cons_zero, List.getElem_cons_succ, List.setIfInBounds_toArray, List.set_cons_zero, List.set_cons_succ]
  refine wpAnyH_ready (rs := [13]) (by kernel_rfl) (by simp) ?_
  refine AllReadyH.cons rfl (fun K hK => ?_) AllReadyH.nil
  refine step_append_any rfl (.tmp 26) (.tmp 38) 78 rfl w.heap.size 82 i0 (.agg #[.int .i64 0, .int .i64 0, .int .i64 0, .slice none 0 0]) 4 48 Tryz.underlying78 hi0 hz0 hz1 hz2 rfl (by decide) (.slice none 0 0) 0 [] (by simp [Act.eval]) (World.ownsRow_nil _ _ _ _) (some ⟨V1.heap.size, 0, none⟩) 1 1 [.int .i64 0, .int .i64 768, .int .i64 879, .slice (some ⟨V0.heap.size, 0, none⟩) 1 1] (by simp [Act.eval]) (by simp) rfl (fun ad e j u hu => by cases e; exact HcX.out j u hu) (by intro u hu; simp at hu; rcases hu with rfl | rfl | rfl | rfl <;> rfl) (by simp only [maxLen]; omega) (by omega) (by omega) ?_
  intro v3 V3 hown hg
  have hbV3 : Below V2.heap.size V2 V3 := ⟨hg.os, hg.tape, hg.output, hg.size, fun k hk => hg.block k hk (by simp [Value.ownBlock])⟩
  have hV3 : V3.cell? ⟨w4.heap.size, 0, none⟩ = some (.int .i64 768) ∧ V3.cell? ⟨w4.heap.size, 1, none⟩ = some (.int .i64 879) ∧ V3.cell? ⟨w4.heap.size, 2, none⟩ = some (.int .i64 1) ∧ V3.cell? ⟨w.heap.size, 0, none⟩ = some (.slice (some ⟨zb, zo, none⟩) 2 cn) ∧ V3.cell? ⟨zb, zo + 1, none⟩ = some (.string ⟨#[69, 120, 116, 101, 110, 100]⟩) := ⟨(cellOf hbV3 (show w4.heap.size < V2.heap.size by omega)).trans hV2.1, (cellOf hbV3 (show w4.heap.size < V2.heap.size by omega)).trans hV2.2.1, (cellOf hbV3 (show w4.heap.size < V2.heap.size by omega)).trans hV2.2.2.1, (cellOf hbV3 (show w.heap.size < V2.heap.size by omega)).trans hV2.2.2.2.1, (cellOf hbV3 (show zb < V2.heap.size by omega)).trans hV2.2.2.2.2⟩
  have Hown := Lib.hid hown
  have HbV3 := Lib.hid hbV3
  clear hown hg hbV3
  refine hK.out _ _ hV3 (fun hHeld => ?_)
  clear hK K
  try simp only [Act.put, List.getElem_toArray, List.getElem_cons_zero, List.getElem_cons_succ, List.setIfInBounds_toArray, List.set_cons_zero, List.set_cons_succ]
  refine wpAnyH_take (i := 14) (v := v3) rfl (by kernel_rfl) (by kernel_rfl) (by kernel_rfl) (fun _ _ _ h => h) (.inl ⟨by rfl, fun V hV => by obtain ⟨c0, c1, c2, c3, c4⟩ := hV; go_simp⟩) hHeld ?_
  try simp only [Act.put, List.getElem_toArray, List.getElem_cons_zero, List.getElem_cons_succ, List.setIfInBounds_toArray, List.set_cons_zero, List.set_cons_succ]
  refine wpAnyH_done (by kernel_rfl) ?_ _
  refine NoPanic.normal ?_

  have hs3 : Strs V3 V3.heap.size (some ⟨V0.heap.size, 0, none⟩) 1 [[69, 120, 116, 101, 110, 100]] := (((Hs1.out.below HbV2.out).more HbV2.out.size).below HbV3.out).more HbV3.out.size
  have hrcs : RCs V3 V3.heap.size 0 none [shRec] ([] ++ recCs shRec (some ⟨V0.heap.size, 0, none⟩) 1 1) := RCs.snoc (x := shRec) (rs := []) hs3 (Nat.le_refl 1) (fun _ => ⟨V0.heap.size, 0, rfl, Nat.zero_le _, by simp⟩) rfl
  obtain ⟨A3, n3, c3, rfl, hn3, hnc3, hrecs⟩ := recs_own (rs := [shRec]) Hown.out hrcs (Nat.le_refl _)
  obtain rfl : n3 = 1 := hn3
  have hpr := print_sh A3 c3 V3 hrecs
  have Hpr := Lib.hid hpr
  have hb3 : Below w.heap.size w V3 := hbw4.trans (Below.mono (hb0V.trans (Below.mono (HbV1.out.trans (Below.mono (HbV2.out.trans (Below.mono HbV3.out (by omega))) (by omega))) (by omega))) (by omega))
  clear hpr hrecs hrcs hs3
  go_wp2_with fail
  rw [rounds_succ]
  go_wp2_with fail
  refine Hpr.out.mono ?_
  rintro e w9 ⟨rfl, hb9⟩
  go_wp2_with fail
  go_ret2
  exact ⟨rfl, hb3.trans (hb9.mono hb3.size)⟩
end Go.Vir


/- viramaref04: Same, one, Right, Find. -/
namespace Go.Vir
open Go Go.RowKit Go.Proofs Go.Shelf
attribute [local go_sem] Oper.semAt_some

theorem rise_step : ∀ {l : List Rg} {a : Int}, riseR a l = true → ∀ (j : Nat) (h : j + 1 < l.length), (l[j]'(by omega)).t < l[j + 1].f
  | [], _, _, _, h => absurd h (by simp)
  | x :: l, a, h, 0, hj => by
    cases l with
    | nil => simp at hj
    | cons y l =>
      simp only [riseR, Bool.and_eq_true, decide_eq_true_eq] at h
      exact h.2.2.2.1
  | x :: l, a, h, j + 1, hj => by
    simp only [riseR, Bool.and_eq_true, decide_eq_true_eq] at h
    exact rise_step h.2.2 j (by simpa using hj)

set_option maxHeartbeats 4000000 in
theorem ref_SameR (A A2 : Option Addr) (m c m2 c2 : Nat) (xs ys : List Rg) (w : World) (hx : Rgs w w.heap.size A m xs) (hy : Rgs w w.heap.size A2 m2 ys) (hm : m ≤ 1000000) (hm2 : m2 ≤ 1000000) :
    Calls Tryz.prog 21 #[.slice A m c, .slice A2 m2 c2] w fun e w' => e = .returned (.bool (decide (xs = ys))) ∧ Below w.heap.size w w' := by
  have hxl := hx.len
  have hyl := hy.len
  rcases hne : ((m : Int) != (m2 : Int)) with _ | _
  rotate_left
  · have hd : decide (xs = ys) = false := by
      rw [decide_eq_false_iff_not]
      rintro rfl
      rw [bne_iff_ne] at hne
      omega
    rw [hd]
    go_enter Tryz.func21, Tryz.ntmps21
    go_wp2_with fail
    go_ret
    exact ⟨rfl, Below.refl _ _⟩
  · have hmm : m = m2 := by
      have : ¬ ((m : Int) ≠ (m2 : Int)) := by rw [← bne_iff_ne, hne]; simp
      omega
    subst hmm
    generalize hV : decide (xs = ys) = V
    have HV := Lib.hid hV
    clear hV
    go_enter Tryz.func21, Tryz.ntmps21
    go_wp2_with fail
    have Hxl := Lib.hid hxl
    have Hyl := Lib.hid hyl
    clear hxl hyl
    go_loopw [5] (fun i wr => ∃ k : Nat, k ≤ m ∧ i = .int .i64 (k : Int) ∧ xs.take k = ys.take k ∧ Below w.heap.size w wr) (fun i _ => m - (RowKit.intOf i).toNat)
    case atStart => exact ⟨0, Nat.zero_le _, rfl, by simp, Below.refl _ _⟩
    case round =>
      obtain ⟨k, hk, rfl, htk, hbr⟩ := hrel
      have Htk := Lib.hid htk
      clear htk
      rcases Nat.lt_or_ge k m with hkm | hge
      · obtain ⟨b1, o1, rfl, hb1, hc1⟩ := hx.at_ (by omega)
        obtain ⟨b2, o2, rfl, hb2, hc2⟩ := hy.at_ (by omega)
        have hkx : k < xs.length := by rw [Hxl.out]; exact hkm
        have hky : k < ys.length := by rw [Hyl.out]; exact hkm
        have u0 := (cellOf hbr hb1).trans (hc1 k hkx).1
        have u1 := (cellOf hbr hb1).trans (hc1 k hkx).2.1
        have u2 := (cellOf hbr hb1).trans (hc1 k hkx).2.2
        have v0 := (cellOf hbr hb2).trans (hc2 k hky).1
        have v1 := (cellOf hbr hb2).trans (hc2 k hky).2.1
        have v2 := (cellOf hbr hb2).trans (hc2 k hky).2.2
        have hnx := rgl_next hkx hky Htk.out
        have hno : xs[k] ≠ ys[k] → V = false := fun h => by
          rw [← HV.out, decide_eq_false_iff_not]
          rintro rfl
          exact h rfl
        have Hnx := Lib.hid hnx
        have Hno := Lib.hid hno
        clear hc1 hc2 hnx hno
        generalize xs[k] = x at *
        generalize ys[k] = y at *
        obtain ⟨E, hE⟩ : ∃ E : Bool, E = decide (x = y) := ⟨_, rfl⟩
        have hq : ∀ w, (binOp .neq 65 (.agg #[.int .i64 x.f, .int .i64 x.t, .int .i64 x.v]) (.agg #[.int .i64 y.f, .int .i64 y.t, .int .i64 y.v])).run Tryz.prog w = .ok (.bool (!E)) w := fun w => by rw [hE]; exact rg_neq x y w
        have HE := Lib.hid hE
        clear hE
        go_upto_region 6 with fail
        go_quiet (fail)
        clear hq u0 u1 u2 v0 v1 v2
        have hbq : Below w.heap.size w (wr.drewN nq) := hbr.trans (below_drewN _ _ _)
        rcases E with _ | _
        · have hv := Hno.out (by rintro rfl; have := HE.out; simp at this)
          have Hv := Lib.hid hv
          clear hv
          go_wp2_with fail
          go_ret
          exact ⟨ret_bool Hv.out.symm, hbq⟩
        · have hxy := Hnx.out (by have := HE.out; simpa using this.symm)
          have Hxy := Lib.hid hxy
          clear hxy
          go_wp2_with fail
          go_roundw
          case rel => exact ⟨k + 1, by omega, by go_num, Hxy.out, hbq⟩
          case measure => simp [RowKit.intOf]; omega
      · have hv : V = true := by
          rw [← HV.out, decide_eq_true_eq]
          have := Htk.out
          rwa [List.take_of_length_le (by rw [Hxl.out]; exact hge), List.take_of_length_le (by rw [Hyl.out]; exact hge)] at this
        have Hv := Lib.hid hv
        clear hv
        go_wp2_with fail
        go_ret
        exact ⟨ret_bool Hv.out.symm, hbr⟩

set_option maxHeartbeats 1000000 in
theorem ref_one4 (x : Rg) (w : World) (h : oneR x = true) : Calls Tryz.prog 90 #[.agg #[.int .i64 x.f, .int .i64 x.t, .int .i64 x.v]] w fun e w' => e = .returned (.bool true) ∧ Below w.heap.size w w' := by
  obtain ⟨f, t, v⟩ := x
  rw [oneR_iff] at h
  obtain ⟨h1, h2, h3, h4, h5⟩ := h
  simp only at h1 h2 h3 h4 h5
  have d1 : decide (f ≥ 0) = true := decide_eq_true h1
  have d2 : decide (f ≤ t) = true := decide_eq_true h2
  have d3 : decide (t ≤ 1114111) = true := decide_eq_true h3
  have d4 : decide (v ≥ 0) = true := decide_eq_true h4
  have d5 : decide (v ≤ 31) = true := decide_eq_true h5
  go_enter Tryz.func90, Tryz.ntmps90
  go_wp2_with fail
  go_ret
  exact ⟨rfl, by go_grown⟩

set_option maxRecDepth 100000 in
set_option maxHeartbeats 4000000 in
theorem ref_RightR (A : Option Addr) (n c : Nat) (l : List Rg) (w : World) (hx : Rgs w w.heap.size A n l) (hn : n ≤ 1000000) (hrise : riseR (-1) l = true) :
    Calls Tryz.prog 92 #[.slice A n c] w fun e w' => e = .returned (.bool (decide ((n : Int) ≤ 600))) ∧ Below w.heap.size w w' := by
  have hlen := hx.len
  have hone : ∀ (k : Nat) (h : k < l.length), oneR l[k] = true := fun k h => (rise_one hrise _ (List.getElem_mem h)).1
  have hstep : ∀ (j : Nat) (h : j + 1 < l.length), l[j].t < l[j + 1].f := fun j h => rise_step hrise j h
  have Hone := Lib.hid hone
  have Hstep := Lib.hid hstep
  have Hlen := Lib.hid hlen
  clear hlen hone hstep hrise
  go_enter Tryz.func92, Tryz.ntmps92
  go_wp2_with fail
  go_loopw [3] (fun i wr => ∃ k : Nat, k ≤ n ∧ i = .int .i64 (k : Int) ∧ Below w.heap.size w wr) (fun i _ => n - (RowKit.intOf i).toNat)
  case atStart => exact ⟨0, Nat.zero_le _, rfl, Below.refl _ _⟩
  case round =>
    obtain ⟨k, hk, rfl, hbr⟩ := hrel
    rcases Nat.lt_or_ge k n with hlt | hge
    · obtain ⟨b, o, rfl, hb, hc⟩ := hx.at_ (by omega)
      have hbs := hbr.size
      have hkl : k < l.length := by rw [Hlen.out]; exact hlt
      rcases k with _ | j
      · have u0 := (cellOf hbr hb).trans (hc 0 hkl).1
        have u1 := (cellOf hbr hb).trans (hc 0 hkl).2.1
        have u2 := (cellOf hbr hb).trans (hc 0 hkl).2.2
        have h1 := fun W => ref_one4 l[0] W (Hone.out 0 hkl)
        generalize l[0] = x at *
        obtain ⟨x1, x2, x3⟩ := x
        simp only [Nat.zero_mul, Nat.add_zero] at u0 u1 u2 h1
        have H1 := Lib.hid h1
        clear h1 hc
        go_upto_region 4 with fail
        refine wp_region_noPanic ?_
        refine wp_region_held_drew (S := (fun V => V.cell? ⟨b, o, none⟩ = some (.int .i64 x1) ∧ V.cell? ⟨b, o + 1, none⟩ = some (.int .i64 x2) ∧ V.cell? ⟨b, o + 2, none⟩ = some (.int .i64 x3))) (by kernel_rfl) ⟨u0, u1, u2⟩ (fun hHeld => ?_)
        refine wpAnyH_take (i := 0) (v := .slice (some ⟨b, o, none⟩) n c) rfl (by kernel_rfl) (by kernel_rfl) (by kernel_rfl) (fun _ _ _ h => h) (.inl ⟨by rfl, fun V hV => by obtain ⟨c0, c1, c2⟩ := hV; go_simp⟩) hHeld ?_
        try simp only [Act.put, List.getElem_toArray, List.getElem_cons_zero, List.setIfInBounds_toArray, List.set_cons_zero, List.set_cons_succ]
        refine wpAnyH_take (i := 1) (v := .int .i64 0) rfl (by kernel_rfl) (by kernel_rfl) (by kernel_rfl) (fun _ _ _ h => h) (.inl ⟨by rfl, fun V hV => by obtain ⟨c0, c1, c2⟩ := hV; go_simp⟩) hHeld ?_
        try simp only [Act.put, List.getElem_toArray, List.getElem_cons_zero, List.getElem_cons_succ, List.setIfInBounds_toArray, List.set_cons_zero, List.set_cons_succ]
        refine wpAnyH_take (i := 2) (v := .pointer (some ⟨b, o, none⟩)) rfl (by kernel_rfl) (by kernel_rfl) (by kernel_rfl) (fun _ _ _ h => h) (.inl ⟨by rfl, fun V hV => by obtain ⟨c0, c1, c2⟩ := hV; go_simp⟩) hHeld ?_
        try simp only [Act.put, List.getElem_toArray, List.getElem_cons_zero, List.getElem_cons_succ, List.setIfInBounds_toArray, List.set_cons_zero, List.set_cons_succ]
        refine wpAnyH_take (i := 3) (v := .agg #[.int .i64 x1, .int .i64 x2, .int .i64 x3]) rfl (by kernel_rfl) (by kernel_rfl) (by kernel_rfl) (fun _ _ _ h => h) (.inl ⟨by rfl, fun V hV => by obtain ⟨c0, c1, c2⟩ := hV; go_simp⟩) hHeld ?_
        try simp only [Act.put, List.getElem_toArray, List.getElem_cons_zero, List.getElem_cons_succ, List.setIfInBounds_toArray, List.set_cons_zero, List.set_cons_succ]
        refine wpAnyH_ready (rs := [4]) (by kernel_rfl) (by simp) ?_
        refine AllReadyH.cons rfl (fun K hK => ?_) AllReadyH.nil
        go_simp
        refine (H1.out _).mono ?_
        rintro e w5 ⟨rfl, hb5⟩
        have hbw := (hbr.drew).trans (hb5.mono hbr.size)
        have d0 := (cellOf hb5 (show b < wr.heap.size by omega)).trans u0
        have d1 := (cellOf hb5 (show b < wr.heap.size by omega)).trans u1
        have d2 := (cellOf hb5 (show b < wr.heap.size by omega)).trans u2
        refine hK.out _ _ ⟨d0, d1, d2⟩ (fun hHeld => ?_)
        clear hK K
        try simp only [Act.put, List.getElem_toArray, List.getElem_cons_zero, List.getElem_cons_succ, List.setIfInBounds_toArray, List.set_cons_zero, List.set_cons_succ]
        refine wpAnyH_take (i := 5) (v := .bool false) rfl (by kernel_rfl) (by kernel_rfl) (by kernel_rfl) (fun _ _ _ h => h) (.inl ⟨by rfl, fun V hV => by obtain ⟨c0, c1, c2⟩ := hV; go_simp⟩) hHeld ?_
        try simp only [Act.put, List.getElem_toArray, List.getElem_cons_zero, List.getElem_cons_succ, List.setIfInBounds_toArray, List.set_cons_zero, List.set_cons_succ]
        refine wpAnyH_take (i := 6) (v := .bool false) rfl (by kernel_rfl) (by kernel_rfl) (by kernel_rfl) (fun _ _ _ h => h) (.inl ⟨by rfl, fun V hV => by obtain ⟨c0, c1, c2⟩ := hV; go_simp⟩) hHeld ?_
        try simp only [Act.put, List.getElem_toArray, List.getElem_cons_zero, List.getElem_cons_succ, List.setIfInBounds_toArray, List.set_cons_zero, List.set_cons_succ]
        refine wpAnyH_take (i := 7) (v := .int .i64 0) rfl (by kernel_rfl) (by kernel_rfl) (by kernel_rfl) (fun _ _ _ h => h) (.inl ⟨by rfl, fun V hV => by obtain ⟨c0, c1, c2⟩ := hV; go_simp⟩) hHeld ?_
        try simp only [Act.put, List.getElem_toArray, List.getElem_cons_zero, List.getElem_cons_succ, List.setIfInBounds_toArray, List.set_cons_zero, List.set_cons_succ]
        refine wpAnyH_take (i := 8) (v := .bool false) rfl (by kernel_rfl) (by kernel_rfl) (by kernel_rfl) (fun _ _ _ h => h) (.inl ⟨by rfl, fun V hV => by obtain ⟨c0, c1, c2⟩ := hV; go_simp⟩) hHeld ?_
        try simp only [Act.put, List.getElem_toArray, List.getElem_cons_zero, List.getElem_cons_succ, List.setIfInBounds_toArray, List.set_cons_zero, List.set_cons_succ]
        refine wpAnyH_take (i := 9) (v := .bool false) rfl (by kernel_rfl) (by kernel_rfl) (by kernel_rfl) (fun _ _ _ h => h) (.inl ⟨by rfl, fun V hV => by obtain ⟨c0, c1, c2⟩ := hV; go_simp⟩) hHeld ?_
        try simp only [Act.put, List.getElem_toArray, List.getElem_cons_zero, List.getElem_cons_succ, List.setIfInBounds_toArray, List.set_cons_zero, List.set_cons_succ]
        refine wpAnyH_take (i := 10) (v := undef) rfl (by kernel_rfl) (by kernel_rfl) (by kernel_rfl) (fun _ _ _ h => h) (.inr ⟨by rfl, rfl⟩) hHeld ?_
        try simp only [Act.put, List.getElem_toArray, List.getElem_cons_zero, List.getElem_cons_succ, List.setIfInBounds_toArray, List.set_cons_zero, List.set_cons_succ]
        refine wpAnyH_take (i := 11) (v := undef) rfl (by kernel_rfl) (by kernel_rfl) (by kernel_rfl) (fun _ _ _ h => h) (.inr ⟨by rfl, rfl⟩) hHeld ?_
        try simp only [Act.put, List.getElem_toArray, List.getElem_cons_zero, List.getElem_cons_succ, List.setIfInBounds_toArray, List.set_cons_zero, List.set_cons_succ]
        refine wpAnyH_take (i := 12) (v := undef) rfl (by kernel_rfl) (by kernel_rfl) (by kernel_rfl) (fun _ _ _ h => h) (.inr ⟨by rfl, rfl⟩) hHeld ?_
        try simp only [Act.put, List.getElem_toArray, List.getElem_cons_zero, List.getElem_cons_succ, List.setIfInBounds_toArray, List.set_cons_zero, List.set_cons_succ]
        refine wpAnyH_take (i := 13) (v := undef) rfl (by kernel_rfl) (by kernel_rfl) (by kernel_rfl) (fun _ _ _ h => h) (.inr ⟨by rfl, rfl⟩) hHeld ?_
        try simp only [Act.put, List.getElem_toArray, List.getElem_cons_zero, List.getElem_cons_succ, List.setIfInBounds_toArray, List.set_cons_zero, List.set_cons_succ]
        refine wpAnyH_take (i := 14) (v := undef) rfl (by kernel_rfl) (by kernel_rfl) (by kernel_rfl) (fun _ _ _ h => h) (.inr ⟨by rfl, rfl⟩) hHeld ?_
        try simp only [Act.put, List.getElem_toArray, List.getElem_cons_zero, List.getElem_cons_succ, List.setIfInBounds_toArray, List.set_cons_zero, List.set_cons_succ]
        refine wpAnyH_take (i := 15) (v := undef) rfl (by kernel_rfl) (by kernel_rfl) (by kernel_rfl) (fun _ _ _ h => h) (.inr ⟨by rfl, rfl⟩) hHeld ?_
        try simp only [Act.put, List.getElem_toArray, List.getElem_cons_zero, List.getElem_cons_succ, List.setIfInBounds_toArray, List.set_cons_zero, List.set_cons_succ]
        refine wpAnyH_take (i := 16) (v := undef) rfl (by kernel_rfl) (by kernel_rfl) (by kernel_rfl) (fun _ _ _ h => h) (.inr ⟨by rfl, rfl⟩) hHeld ?_
        try simp only [Act.put, List.getElem_toArray, List.getElem_cons_zero, List.getElem_cons_succ, List.setIfInBounds_toArray, List.set_cons_zero, List.set_cons_succ]
        refine wpAnyH_take (i := 17) (v := undef) rfl (by kernel_rfl) (by kernel_rfl) (by kernel_rfl) (fun _ _ _ h => h) (.inr ⟨by rfl, rfl⟩) hHeld ?_
        try simp only [Act.put, List.getElem_toArray, List.getElem_cons_zero, List.getElem_cons_succ, List.setIfInBounds_toArray, List.set_cons_zero, List.set_cons_succ]
        refine wpAnyH_take (i := 18) (v := undef) rfl (by kernel_rfl) (by kernel_rfl) (by kernel_rfl) (fun _ _ _ h => h) (.inr ⟨by rfl, rfl⟩) hHeld ?_
        try simp only [Act.put, List.getElem_toArray, List.getElem_cons_zero, List.getElem_cons_succ, List.setIfInBounds_toArray, List.set_cons_zero, List.set_cons_succ]
        refine wpAnyH_take (i := 19) (v := undef) rfl (by kernel_rfl) (by kernel_rfl) (by kernel_rfl) (fun _ _ _ h => h) (.inr ⟨by rfl, rfl⟩) hHeld ?_
        try simp only [Act.put, List.getElem_toArray, List.getElem_cons_zero, List.getElem_cons_succ, List.setIfInBounds_toArray, List.set_cons_zero, List.set_cons_succ]
        refine wpAnyH_take (i := 20) (v := undef) rfl (by kernel_rfl) (by kernel_rfl) (by kernel_rfl) (fun _ _ _ h => h) (.inr ⟨by rfl, rfl⟩) hHeld ?_
        try simp only [Act.put, List.getElem_toArray, List.getElem_cons_zero, List.getElem_cons_succ, List.setIfInBounds_toArray, List.set_cons_zero, List.set_cons_succ]
        refine wpAnyH_take (i := 21) (v := undef) rfl (by kernel_rfl) (by kernel_rfl) (by kernel_rfl) (fun _ _ _ h => h) (.inr ⟨by rfl, rfl⟩) hHeld ?_
        try simp only [Act.put, List.getElem_toArray, List.getElem_cons_zero, List.getElem_cons_succ, List.setIfInBounds_toArray, List.set_cons_zero, List.set_cons_succ]
        refine wpAnyH_take (i := 22) (v := .bool false) rfl (by kernel_rfl) (by kernel_rfl) (by kernel_rfl) (fun _ _ _ h => h) (.inl ⟨by rfl, fun V hV => by obtain ⟨c0, c1, c2⟩ := hV; go_simp⟩) hHeld ?_
        try simp only [Act.put, List.getElem_toArray, List.getElem_cons_zero, List.getElem_cons_succ, List.setIfInBounds_toArray, List.set_cons_zero, List.set_cons_succ]
        refine wpAnyH_take (i := 23) (v := .bool false) rfl (by kernel_rfl) (by kernel_rfl) (by kernel_rfl) (fun _ _ _ h => h) (.inl ⟨by rfl, fun V hV => by obtain ⟨c0, c1, c2⟩ := hV; go_simp⟩) hHeld ?_
        try simp only [Act.put, List.getElem_toArray, List.getElem_cons_zero, List.getElem_cons_succ, List.setIfInBounds_toArray, List.set_cons_zero, List.set_cons_succ]
        refine wpAnyH_done (by kernel_rfl) ?_ _
        refine NoPanic.normal ?_

        go_wp2_with fail
        go_roundw
        case rel => exact ⟨1, by omega, by go_num, hbw⟩
        case measure => simp [RowKit.intOf]; omega
      · have u0 := (cellOf hbr hb).trans (hc (j + 1) hkl).1
        have u1 := (cellOf hbr hb).trans (hc (j + 1) hkl).2.1
        have u2 := (cellOf hbr hb).trans (hc (j + 1) hkl).2.2
        have u3 := (cellOf hbr hb).trans (hc j (by omega)).2.1
        have h1 := fun W => ref_one4 l[j + 1] W (Hone.out (j + 1) hkl)
        have hs := Hstep.out j hkl
        generalize l[j + 1] = x at *
        generalize (l[j]'(by omega)).t = z at *
        obtain ⟨x1, x2, x3⟩ := x
        simp only at u0 u1 u2 h1 hs
        have hd : decide (x1 ≤ z) = false := decide_eq_false (by omega)
        have hwm : IntKind.i64.wrap (j : Int) = (j : Int) := by simp [IntKind.wrap, IntKind.bits, IntKind.signed]; omega
        have H1 := Lib.hid h1
        clear h1 hc hs
        go_upto_region 4 with fail
        refine wp_region_noPanic ?_
        refine wp_region_held_drew (S := (fun V => V.cell? ⟨b, o + (j + 1) * 3, none⟩ = some (.int .i64 x1) ∧ V.cell? ⟨b, o + (j + 1) * 3 + 1, none⟩ = some (.int .i64 x2) ∧ V.cell? ⟨b, o + (j + 1) * 3 + 2, none⟩ = some (.int .i64 x3) ∧ V.cell? ⟨b, o + j * 3 + 1, none⟩ = some (.int .i64 z))) (by kernel_rfl) ⟨u0, u1, u2, u3⟩ (fun hHeld => ?_)
        refine wpAnyH_take (i := 0) (v := .slice (some ⟨b, o, none⟩) n c) rfl (by kernel_rfl) (by kernel_rfl) (by kernel_rfl) (fun _ _ _ h => h) (.inl ⟨by rfl, fun V hV => by obtain ⟨c0, c1, c2, c3⟩ := hV; go_simp⟩) hHeld ?_
        try simp only [Act.put, List.getElem_toArray, List.getElem_cons_zero, List.setIfInBounds_toArray, List.set_cons_zero, List.set_cons_succ]
        refine wpAnyH_take (i := 1) (v := .int .i64 ((j : Int) + 1)) rfl (by kernel_rfl) (by kernel_rfl) (by kernel_rfl) (fun _ _ _ h => h) (.inl ⟨by rfl, fun V hV => by obtain ⟨c0, c1, c2, c3⟩ := hV; go_simp⟩) hHeld ?_
        try simp only [Act.put, List.getElem_toArray, List.getElem_cons_zero, List.getElem_cons_succ, List.setIfInBounds_toArray, List.set_cons_zero, List.set_cons_succ]
        refine wpAnyH_take (i := 2) (v := .pointer (some ⟨b, o + (j + 1) * 3, none⟩)) rfl (by kernel_rfl) (by kernel_rfl) (by kernel_rfl) (fun _ _ _ h => h) (.inl ⟨by rfl, fun V hV => by obtain ⟨c0, c1, c2, c3⟩ := hV; go_simp; intro hx; omega⟩) hHeld ?_
        try simp only [Act.put, List.getElem_toArray, List.getElem_cons_zero, List.getElem_cons_succ, List.setIfInBounds_toArray, List.set_cons_zero, List.set_cons_succ]
        refine wpAnyH_take (i := 3) (v := .agg #[.int .i64 x1, .int .i64 x2, .int .i64 x3]) rfl (by kernel_rfl) (by kernel_rfl) (by kernel_rfl) (fun _ _ _ h => h) (.inl ⟨by rfl, fun V hV => by obtain ⟨c0, c1, c2, c3⟩ := hV; go_simp⟩) hHeld ?_
        try simp only [Act.put, List.getElem_toArray, List.getElem_cons_zero, List.getElem_cons_succ, List.setIfInBounds_toArray, List.set_cons_zero, List.set_cons_succ]
        refine wpAnyH_ready (rs := [4]) (by kernel_rfl) (by simp) ?_
        refine AllReadyH.cons rfl (fun K hK => ?_) AllReadyH.nil
        go_simp
        refine (H1.out _).mono ?_
        rintro e w5 ⟨rfl, hb5⟩
        have hbw := (hbr.drew).trans (hb5.mono hbr.size)
        have d0 := (cellOf hb5 (show b < wr.heap.size by omega)).trans u0
        have d1 := (cellOf hb5 (show b < wr.heap.size by omega)).trans u1
        have d2 := (cellOf hb5 (show b < wr.heap.size by omega)).trans u2
        have d3 := (cellOf hb5 (show b < wr.heap.size by omega)).trans u3
        refine hK.out _ _ ⟨d0, d1, d2, d3⟩ (fun hHeld => ?_)
        clear hK K
        try simp only [Act.put, List.getElem_toArray, List.getElem_cons_zero, List.getElem_cons_succ, List.setIfInBounds_toArray, List.set_cons_zero, List.set_cons_succ]
        refine wpAnyH_take (i := 5) (v := .bool false) rfl (by kernel_rfl) (by kernel_rfl) (by kernel_rfl) (fun _ _ _ h => h) (.inl ⟨by rfl, fun V hV => by obtain ⟨c0, c1, c2, c3⟩ := hV; go_simp⟩) hHeld ?_
        try simp only [Act.put, List.getElem_toArray, List.getElem_cons_zero, List.getElem_cons_succ, List.setIfInBounds_toArray, List.set_cons_zero, List.set_cons_succ]
        refine wpAnyH_take (i := 6) (v := .bool false) rfl (by kernel_rfl) (by kernel_rfl) (by kernel_rfl) (fun _ _ _ h => h) (.inl ⟨by rfl, fun V hV => by obtain ⟨c0, c1, c2, c3⟩ := hV; go_simp⟩) hHeld ?_
        try simp only [Act.put, List.getElem_toArray, List.getElem_cons_zero, List.getElem_cons_succ, List.setIfInBounds_toArray, List.set_cons_zero, List.set_cons_succ]
        refine wpAnyH_take (i := 7) (v := .int .i64 ((j : Int) + 1)) rfl (by kernel_rfl) (by kernel_rfl) (by kernel_rfl) (fun _ _ _ h => h) (.inl ⟨by rfl, fun V hV => by obtain ⟨c0, c1, c2, c3⟩ := hV; go_simp⟩) hHeld ?_
        try simp only [Act.put, List.getElem_toArray, List.getElem_cons_zero, List.getElem_cons_succ, List.setIfInBounds_toArray, List.set_cons_zero, List.set_cons_succ]
        refine wpAnyH_take (i := 8) (v := .bool true) rfl (by kernel_rfl) (by kernel_rfl) (by kernel_rfl) (fun _ _ _ h => h) (.inl ⟨by rfl, fun V hV => by obtain ⟨c0, c1, c2, c3⟩ := hV; go_simp⟩) hHeld ?_
        try simp only [Act.put, List.getElem_toArray, List.getElem_cons_zero, List.getElem_cons_succ, List.setIfInBounds_toArray, List.set_cons_zero, List.set_cons_succ]
        refine wpAnyH_take (i := 9) (v := .bool true) rfl (by kernel_rfl) (by kernel_rfl) (by kernel_rfl) (fun _ _ _ h => h) (.inl ⟨by rfl, fun V hV => by obtain ⟨c0, c1, c2, c3⟩ := hV; go_simp⟩) hHeld ?_
        try simp only [Act.put, List.getElem_toArray, List.getElem_cons_zero, List.getElem_cons_succ, List.setIfInBounds_toArray, List.set_cons_zero, List.set_cons_succ]
        refine wpAnyH_take (i := 10) (v := .slice (some ⟨b, o, none⟩) n c) rfl (by kernel_rfl) (by kernel_rfl) (by kernel_rfl) (fun _ _ _ h => h) (.inl ⟨by rfl, fun V hV => by obtain ⟨c0, c1, c2, c3⟩ := hV; go_simp⟩) hHeld ?_
        try simp only [Act.put, List.getElem_toArray, List.getElem_cons_zero, List.getElem_cons_succ, List.setIfInBounds_toArray, List.set_cons_zero, List.set_cons_succ]
        refine wpAnyH_take (i := 11) (v := .int .i64 ((j : Int) + 1)) rfl (by kernel_rfl) (by kernel_rfl) (by kernel_rfl) (fun _ _ _ h => h) (.inl ⟨by rfl, fun V hV => by obtain ⟨c0, c1, c2, c3⟩ := hV; go_simp⟩) hHeld ?_
        try simp only [Act.put, List.getElem_toArray, List.getElem_cons_zero, List.getElem_cons_succ, List.setIfInBounds_toArray, List.set_cons_zero, List.set_cons_succ]
        refine wpAnyH_take (i := 12) (v := .pointer (some ⟨b, o + (j + 1) * 3, none⟩)) rfl (by kernel_rfl) (by kernel_rfl) (by kernel_rfl) (fun _ _ _ h => h) (.inl ⟨by rfl, fun V hV => by obtain ⟨c0, c1, c2, c3⟩ := hV; go_simp; intro hx; omega⟩) hHeld ?_
        try simp only [Act.put, List.getElem_toArray, List.getElem_cons_zero, List.getElem_cons_succ, List.setIfInBounds_toArray, List.set_cons_zero, List.set_cons_succ]
        refine wpAnyH_take (i := 13) (v := .pointer (some ⟨b, o + (j + 1) * 3, none⟩)) rfl (by kernel_rfl) (by kernel_rfl) (by kernel_rfl) (fun _ _ _ h => h) (.inl ⟨by rfl, fun V hV => by obtain ⟨c0, c1, c2, c3⟩ := hV; go_simp⟩) hHeld ?_
        try simp only [Act.put, List.getElem_toArray, List.getElem_cons_zero, List.getElem_cons_succ, List.setIfInBounds_toArray, List.set_cons_zero, List.set_cons_succ]
        refine wpAnyH_take (i := 14) (v := .int .i64 x1) rfl (by kernel_rfl) (by kernel_rfl) (by kernel_rfl) (fun _ _ _ h => h) (.inl ⟨by rfl, fun V hV => by obtain ⟨c0, c1, c2, c3⟩ := hV; go_simp⟩) hHeld ?_
        try simp only [Act.put, List.getElem_toArray, List.getElem_cons_zero, List.getElem_cons_succ, List.setIfInBounds_toArray, List.set_cons_zero, List.set_cons_succ]
        refine wpAnyH_take (i := 15) (v := .slice (some ⟨b, o, none⟩) n c) rfl (by kernel_rfl) (by kernel_rfl) (by kernel_rfl) (fun _ _ _ h => h) (.inl ⟨by rfl, fun V hV => by obtain ⟨c0, c1, c2, c3⟩ := hV; go_simp⟩) hHeld ?_
        try simp only [Act.put, List.getElem_toArray, List.getElem_cons_zero, List.getElem_cons_succ, List.setIfInBounds_toArray, List.set_cons_zero, List.set_cons_succ]
        refine wpAnyH_take (i := 16) (v := .int .i64 ((j : Int) + 1)) rfl (by kernel_rfl) (by kernel_rfl) (by kernel_rfl) (fun _ _ _ h => h) (.inl ⟨by rfl, fun V hV => by obtain ⟨c0, c1, c2, c3⟩ := hV; go_simp⟩) hHeld ?_
        try simp only [Act.put, List.getElem_toArray, List.getElem_cons_zero, List.getElem_cons_succ, List.setIfInBounds_toArray, List.set_cons_zero, List.set_cons_succ]
        refine wpAnyH_take (i := 17) (v := .int .i64 (j : Int)) rfl (by kernel_rfl) (by kernel_rfl) (by kernel_rfl) (fun _ _ _ h => h) (.inl ⟨by rfl, fun V hV => by obtain ⟨c0, c1, c2, c3⟩ := hV; go_simp⟩) hHeld ?_
        try simp only [Act.put, List.getElem_toArray, List.getElem_cons_zero, List.getElem_cons_succ, List.setIfInBounds_toArray, List.set_cons_zero, List.set_cons_succ]
        refine wpAnyH_take (i := 18) (v := .pointer (some ⟨b, o + j * 3, none⟩)) rfl (by kernel_rfl) (by kernel_rfl) (by kernel_rfl) (fun _ _ _ h => h) (.inl ⟨by rfl, fun V hV => by obtain ⟨c0, c1, c2, c3⟩ := hV; go_simp; intro hx; omega⟩) hHeld ?_
        try simp only [Act.put, List.getElem_toArray, List.getElem_cons_zero, List.getElem_cons_succ, List.setIfInBounds_toArray, List.set_cons_zero, List.set_cons_succ]
        refine wpAnyH_take (i := 19) (v := .pointer (some ⟨b, o + j * 3 + 1, none⟩)) rfl (by kernel_rfl) (by kernel_rfl) (by kernel_rfl) (fun _ _ _ h => h) (.inl ⟨by rfl, fun V hV => by obtain ⟨c0, c1, c2, c3⟩ := hV; go_simp⟩) hHeld ?_
        try simp only [Act.put, List.getElem_toArray, List.getElem_cons_zero, List.getElem_cons_succ, List.setIfInBounds_toArray, List.set_cons_zero, List.set_cons_succ]
        refine wpAnyH_take (i := 20) (v := .int .i64 z) rfl (by kernel_rfl) (by kernel_rfl) (by kernel_rfl) (fun _ _ _ h => h) (.inl ⟨by rfl, fun V hV => by obtain ⟨c0, c1, c2, c3⟩ := hV; go_simp⟩) hHeld ?_
        try simp only [Act.put, List.getElem_toArray, List.getElem_cons_zero, List.getElem_cons_succ, List.setIfInBounds_toArray, List.set_cons_zero, List.set_cons_succ]
        refine wpAnyH_take (i := 21) (v := .bool false) rfl (by kernel_rfl) (by kernel_rfl) (by kernel_rfl) (fun _ _ _ h => h) (.inl ⟨by rfl, fun V hV => by obtain ⟨c0, c1, c2, c3⟩ := hV; go_simp⟩) hHeld ?_
        try simp only [Act.put, List.getElem_toArray, List.getElem_cons_zero, List.getElem_cons_succ, List.setIfInBounds_toArray, List.set_cons_zero, List.set_cons_succ]
        refine wpAnyH_take (i := 22) (v := .bool false) rfl (by kernel_rfl) (by kernel_rfl) (by kernel_rfl) (fun _ _ _ h => h) (.inl ⟨by rfl, fun V hV => by obtain ⟨c0, c1, c2, c3⟩ := hV; go_simp⟩) hHeld ?_
        try simp only [Act.put, List.getElem_toArray, List.getElem_cons_zero, List.getElem_cons_succ, List.setIfInBounds_toArray, List.set_cons_zero, List.set_cons_succ]
        refine wpAnyH_take (i := 23) (v := .bool false) rfl (by kernel_rfl) (by kernel_rfl) (by kernel_rfl) (fun _ _ _ h => h) (.inl ⟨by rfl, fun V hV => by obtain ⟨c0, c1, c2, c3⟩ := hV; go_simp⟩) hHeld ?_
        try simp only [Act.put, List.getElem_toArray, List.getElem_cons_zero, List.getElem_cons_succ, List.setIfInBounds_toArray, List.set_cons_zero, List.set_cons_succ]
        refine wpAnyH_done (by kernel_rfl) ?_ _
        refine NoPanic.normal ?_

        go_wp2_with fail
        go_roundw
        case rel => exact ⟨j + 1 + 1, by omega, by go_num, hbw⟩
        case measure => simp [RowKit.intOf]; omega
    · go_wp2_with fail
      go_ret
      exact ⟨rfl, hbr⟩

set_option maxHeartbeats 1000000 in
theorem ref_FindR (A : Option Addr) (n c : Nat) (l : List Rg) (r : Int) (w : World) (hx : Rgs w w.heap.size A n l) (hn : n ≤ 1000000) :
    Calls Tryz.prog 52 #[.slice A n c, .int .i64 r] w fun e w' => e = .returned (.tuple #[.int .i64 ((findR l r).getD 0), .bool (findR l r).isSome]) ∧ Below w.heap.size w w' := by
  have hlen := hx.len
  have hhit : ∀ (k : Nat) (hk : k < l.length), inR r l[k] = true → (∀ (j : Nat) (h2 : j < k), inR r (l[j]'(by omega)) = false) → findR l r = some l[k].v := fun k hk hp hno => findR_hit hk hp hno
  have hnone : (∀ (j : Nat) (h : j < l.length), inR r l[j] = false) → findR l r = none := fun h => findR_none h
  generalize findR l r = F at *
  have Hhit := Lib.hid hhit
  have Hnone := Lib.hid hnone
  have Hlen := Lib.hid hlen
  clear hlen hhit hnone
  go_enter Tryz.func52, Tryz.ntmps52
  go_wp2_with fail
  go_loopw [6] (fun i wr => ∃ k : Nat, k ≤ n ∧ i = .int .i64 (k : Int) ∧ (∀ (j : Nat) (_ : j < k) (h2 : j < l.length), inR r l[j] = false) ∧ Below w.heap.size w wr) (fun i _ => n - (RowKit.intOf i).toNat)
  case atStart => exact ⟨0, Nat.zero_le _, rfl, fun j h => absurd h (by omega), Below.refl _ _⟩
  case round =>
    obtain ⟨k, hk, rfl, hno, hbr⟩ := hrel
    have Hno := Lib.hid hno
    clear hno
    rcases Nat.lt_or_ge k n with hlt | hge
    · obtain ⟨b, o, rfl, hb, hc⟩ := hx.at_ (by omega)
      have hkl : k < l.length := by rw [Hlen.out]; exact hlt
      have u0 := (cellOf hbr hb).trans (hc k hkl).1
      have u1 := (cellOf hbr hb).trans (hc k hkl).2.1
      have u2 := (cellOf hbr hb).trans (hc k hkl).2.2
      have hh := Hhit.out k hkl
      have hnx : inR r l[k] = false → ∀ (j : Nat) (_ : j < k + 1) (h2 : j < l.length), inR r l[j] = false := fun h j hj h2 => by
        rcases Nat.lt_or_ge j k with h3 | h3
        · exact Hno.out j h3 h2
        · obtain rfl : j = k := by omega
          exact h
      have hh2 := fun h => hh h (fun j h2 => Hno.out j h2 (by omega))
      have Hnx := Lib.hid hnx
      have Hh := Lib.hid hh2
      clear hc hh hnx hh2
      generalize l[k] = x at *
      obtain ⟨x1, x2, x3⟩ := x
      simp only at u0 u1 u2
      by_cases h1 : x1 ≤ r
      · by_cases h2 : r ≤ x2
        · have e1 : decide (r ≥ x1) = true := decide_eq_true h1
          have e2 : decide (r ≤ x2) = true := decide_eq_true h2
          have hf := Hh.out (by simp [inR, h1, h2])
          have Hf := Lib.hid hf
          clear hf h1 h2
          go_wp2_with fail
          go_ret2
          rw [Hf.out]
          exact ⟨rfl, hbr⟩
        · have e1 : decide (r ≥ x1) = true := decide_eq_true h1
          have e2 : decide (r ≤ x2) = false := decide_eq_false h2
          have hf := Hnx.out (by simp [inR, h2])
          have Hf := Lib.hid hf
          clear hf h1 h2
          go_wp2_with fail
          go_roundw
          case rel => exact ⟨k + 1, by omega, by go_num, Hf.out, hbr⟩
          case measure => simp [RowKit.intOf]; omega
      · have e1 : decide (r ≥ x1) = false := decide_eq_false h1
        have hf := Hnx.out (by simp [inR, h1])
        have Hf := Lib.hid hf
        clear hf h1
        go_wp2_with fail
        go_roundw
        case rel => exact ⟨k + 1, by omega, by go_num, Hf.out, hbr⟩
        case measure => simp [RowKit.intOf]; omega
    · have hf := Hnone.out (fun j h => Hno.out j (by have := Hlen.out; omega) h)
      have Hf := Lib.hid hf
      clear hf
      go_wp2_with fail
      go_ret2
      rw [Hf.out]
      exact ⟨rfl, hbr⟩
end Go.Vir

