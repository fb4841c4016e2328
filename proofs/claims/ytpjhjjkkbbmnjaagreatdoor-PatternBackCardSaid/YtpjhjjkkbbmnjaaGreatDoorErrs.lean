/- errors.As at class.wrong, errors.Is at a sentinel, class.told, pattern.told. (errors.As after the kit's worked walk ToyasAs.) -/
import Derived.Test.YtpjhjjkkbbmnjaaGreatDoorWkA
import Derived.Test.YtpjhjjkkbbmnjaaGreatDoorRange
import Derived.LaidEql
import Derived.Stop.Asserts
import Derived.RowKitTokens
namespace Go.Vir
open Go Go.RowKit Go.Proofs Go.Extern.Stop Go.Stop Go.Extern

theorem class_as_nil (t : Value) (w : World) :
    Calls Tryz.prog 124 #[.nilIface, t] w fun e w' => e = .returned (.bool false) ∧ w' = w := by
  go_enter Tryz.func124, Tryz.ntmps124
  go_wp2
  go_ret
  exact ⟨rfl, rfl⟩

theorem cw_valueOfP (t : Addr) (w : World) : (ReflectliteValue.unpack (.iface 189 (.pointer (some t)))).run Tryz.prog w
    = .ok (.agg #[.pointer (some ⟨6, 189, none⟩), .pointer (some ⟨w.heap.size, 0, none⟩), .int .u64 150]) (w.alloc (.cells #[.pointer (some t)] 189)) := by kernel_rfl
theorem cw_typeP (a : Addr) (w : World) : (ReflectliteValue.methodAny (ReflectliteValue.valueError "reflectlite.Value.Type" 0) (fun t _ _ _ => ReflectliteType.toType t) #[.agg #[.pointer (some ⟨6, 189, none⟩), .pointer (some a), .int .u64 150]]).run Tryz.prog w
    = .ok (.iface 230 (.agg #[.pointer (some ⟨6, 189, none⟩)])) w := by kernel_rfl
theorem cw_kindP (w : World) : ((ReflectliteType.abiMethod fun t => (fun a : Nat => Value.int IntKind.u8 (a : Int)) <$> Rtype.kind t) #[.pointer (some ⟨6, 189, none⟩)]).run Tryz.prog w = .ok (.int .u8 22) w := by kernel_rfl
theorem cw_kindS (w : World) : ((ReflectliteType.abiMethod fun t => (fun a : Nat => Value.int IntKind.u8 (a : Int)) <$> Rtype.kind t) #[.pointer (some ⟨6, 133, none⟩)]).run Tryz.prog w = .ok (.int .u8 25) w := by kernel_rfl
theorem rlm (z : Sem Value) (f : TypeId → Addr → Nat → Nat → Sem Value) (v : Value) :
    ReflectliteValue.method z f #[v] = (do match ← ReflectliteValue.parts v with | none => z | some (t, a, fl) => f t a fl (fl % 32)) := rfl
theorem cw_partsP (a : Addr) (w : World) : (ReflectliteValue.parts (.agg #[.pointer (some ⟨6, 189, none⟩), .pointer (some a), .int .u64 150])).run Tryz.prog w = .ok (some (189, a, 150)) w := by kernel_rfl
theorem cw_isNilP (a p : Addr) (W : World) (ha : W.cell? a = some (.pointer (some p))) :
    (ReflectliteValue.method (ReflectliteValue.valueError "reflectlite.Value.IsNil" 0) ReflectliteValue.isNil #[.agg #[.pointer (some ⟨6, 189, none⟩), .pointer (some a), .int .u64 150]]).run Tryz.prog W = .ok (.bool false) W := by
  rw [rlm]
  simp only [Sem.run_bind, cw_partsP, Result.andThen]
  simp [ReflectliteValue.isNil, loadVar, isAgg, underlying, Tryz.underlying189, ha, Result.andThen]
theorem cw_elemP (w : World) : (ReflectliteType.method ReflectliteType.elem #[.agg #[.pointer (some ⟨6, 189, none⟩)]]).run Tryz.prog w = .ok (.iface 230 (.agg #[.pointer (some ⟨6, 133, none⟩)])) w := by kernel_rfl
theorem cw_implS (w : World) : (ReflectliteType.relation "Implements" ReflectliteType.implements_ #[.agg #[.pointer (some ⟨6, 133, none⟩)], .iface 230 (.agg #[.pointer (some ⟨6, 68, none⟩)])]).run Tryz.prog w = .ok (.bool true) w := by kernel_rfl
theorem cw_typeOfS (v : Value) (w : World) : (ReflectliteType.typeOf #[.iface 133 v]).run Tryz.prog w = .ok (.iface 230 (.agg #[.pointer (some ⟨6, 133, none⟩)])) w := by kernel_rfl
theorem cw_assS (w : World) : (ReflectliteType.relation "AssignableTo" ReflectliteType.assignableTo #[.agg #[.pointer (some ⟨6, 133, none⟩)], .iface 230 (.agg #[.pointer (some ⟨6, 133, none⟩)])]).run Tryz.prog w = .ok (.bool true) w := by kernel_rfl
theorem cw_valueOfS (why : Int) (e : Value) (w : World) : (ReflectliteValue.unpack (.iface 133 (.agg #[.int .i64 why, e]))).run Tryz.prog w
    = .ok (.agg #[.pointer (some ⟨6, 133, none⟩), .pointer (some ⟨w.heap.size, 0, none⟩), .int .u64 153]) (w.alloc (.cells #[.int .i64 why, e] 133)) := by kernel_rfl
theorem cw_elemOfP (w : World) : (Rtype.elem? 189).run Tryz.prog w = .ok (some 133) w := by kernel_rfl
theorem cw_mkS (p : Addr) (w : World) : (ReflectliteValue.mk 133 p ReflectliteValue.flagAddr).run Tryz.prog w = .ok (.agg #[.pointer (some ⟨6, 133, none⟩), .pointer (some p), .int .u64 409]) w := by kernel_rfl
theorem cw_elemVP (a p : Addr) (W : World) (ha : W.cell? a = some (.pointer (some p))) :
    (ReflectliteValue.method (ReflectliteValue.valueError "reflectlite.Value.Elem" 0) ReflectliteValue.elem #[.agg #[.pointer (some ⟨6, 189, none⟩), .pointer (some a), .int .u64 150]]).run Tryz.prog W
      = .ok (.agg #[.pointer (some ⟨6, 133, none⟩), .pointer (some p), .int .u64 409]) W := by
  rw [rlm]
  simp only [Sem.run_bind, cw_partsP, Result.andThen]
  simp [ReflectliteValue.elem, loadVar, isAgg, underlying, Tryz.underlying189, ha, Result.andThen, cw_elemOfP, cw_mkS]
theorem rls (v x : Value) : ReflectliteValue.set #[v, x] = (do
    let (some (dst, a, fl), some (src, b, _)) := (← ReflectliteValue.parts v, ← ReflectliteValue.parts x)
      | unsupported (.noEntry "extern/(internal/reflectlite.Value).Set.zeroValue")
    if fl / ReflectliteValue.flagAddr % 2 == 0 then unsupported (.noEntry "extern/(internal/reflectlite.Value).Set.unaddressable")
    let val ← loadVar src b
    if ← Rtype.directlyAssignable dst src then storeVar dst a val
    else if ← Rtype.implements dst src then
      if (← Rtype.kind src) == 20 then
        match val with
        | .nilIface => unsupported (.noEntry "extern/reflectlite: a nil value of one interface type handed on as a value of another")
        | _ => storeVar dst a val
      else storeVar dst a (.iface src val)
    else panicString ("reflectlite.Set: value of type " ++ (← Rtype.spelt src) ++ " is not assignable to type " ++ (← Rtype.spelt dst))
    pure (.tuple #[])) := rfl
theorem cw_partsA (a : Addr) (w : World) : (ReflectliteValue.parts (.agg #[.pointer (some ⟨6, 133, none⟩), .pointer (some a), .int .u64 409])).run Tryz.prog w = .ok (some (133, a, 409)) w := by kernel_rfl
theorem cw_partsS (a : Addr) (w : World) : (ReflectliteValue.parts (.agg #[.pointer (some ⟨6, 133, none⟩), .pointer (some a), .int .u64 153])).run Tryz.prog w = .ok (some (133, a, 153)) w := by kernel_rfl
theorem cw_directS (w : World) : (Rtype.directlyAssignable 133 133).run Tryz.prog w = .ok true w := by kernel_rfl
theorem cw_sizeS (w : World) : (sizeOf 133).run Tryz.prog w = .ok 2 w := by kernel_rfl
theorem cw_aggS (w : World) : (isAgg 133).run Tryz.prog w = .ok true w := by kernel_rfl
theorem cw_setS (tb bb : Nat) (why : Int) (e o1 o2 : Value) (W : World) (he1 : e.oneCell' = true)
    (hb0 : W.cell? ⟨bb, 0, none⟩ = some (.int .i64 why)) (hb1 : W.cell? ⟨bb, 1, none⟩ = some e)
    (ht0 : W.cell? ⟨tb, 0, none⟩ = some o1) (ht1 : W.cell? ⟨tb, 1, none⟩ = some o2) (hf0 : W.frozen? ⟨tb, 0, none⟩ = false) (hf1 : W.frozen? ⟨tb, 1, none⟩ = false) :
    (ReflectliteValue.set #[.agg #[.pointer (some ⟨6, 133, none⟩), .pointer (some ⟨tb, 0, none⟩), .int .u64 409], .agg #[.pointer (some ⟨6, 133, none⟩), .pointer (some ⟨bb, 0, none⟩), .int .u64 153]]).run Tryz.prog W
      = .ok (.tuple #[]) ((W.setCell ⟨tb, 0, none⟩ (.int .i64 why)).setCell ⟨tb, 1, none⟩ e) := by
  have e1 : (loadVar 133 ⟨bb, 0, none⟩).run Tryz.prog W = .ok (.agg #[.int .i64 why, e]) W := by
    unfold loadVar
    simp [Result.andThen, loadCells, loadCellsFrom, Addr.add, hb0, hb1]
  have hv : (Value.agg #[.int .i64 why, e]).cells = #[.int .i64 why, e] := rfl
  have e2 : (storeVar 133 ⟨tb, 0, none⟩ (.agg #[.int .i64 why, e])).run Tryz.prog W = .ok () ((W.setCell ⟨tb, 0, none⟩ (.int .i64 why)).setCell ⟨tb, 1, none⟩ e) := by
    unfold storeVar
    simp only [hv]
    simp only [Sem.run_bind, cw_sizeS, Result.andThen]
    simp only [storeCells, Addr.add, Sem.run_bind, List.size_toArray, List.length_cons, List.length_nil, ne_eq, not_true_eq_false, if_false, Sem.run_pure, Result.andThen]
    rw [run_store Tryz.prog W _ _ _ (by rfl)]
    simp only [↓reduceIte, Nat.one_ne_zero, ht0, hf0, Bool.false_eq_true, Nat.zero_add]
    rw [run_store Tryz.prog _ _ _ _ he1]
    have h2 : (W.setCell ⟨tb, 0, none⟩ (.int .i64 why)).cell? ⟨tb, 1, none⟩ = some o2 := (World.cell?_setCell_other _ _ _ _ (by simp)).trans ht1
    simp [h2, hf1]
  rw [rls]
  simp only [Sem.run_bind, cw_partsA, cw_partsS, Result.andThen]
  simp [ReflectliteValue.flagAddr, e1, e2, Result.andThen, cw_directS]
theorem cw_methodKind (h : Value) (w : World) : (Go.method 416 230 (.agg #[h]) "Kind").run Tryz.prog w = .ok (231, h) w := by kernel_rfl
theorem cw_methodElem (h : Value) (w : World) : (Go.method 416 230 (.agg #[h]) "Elem").run Tryz.prog w = .ok (244, .agg #[h]) w := by kernel_rfl
theorem cw_methodImplements (h : Value) (w : World) : (Go.method 416 230 (.agg #[h]) "Implements").run Tryz.prog w = .ok (245, .agg #[h]) w := by kernel_rfl
theorem cw_methodAssignableTo (h : Value) (w : World) : (Go.method 416 230 (.agg #[h]) "AssignableTo").run Tryz.prog w = .ok (242, .agg #[h]) w := by kernel_rfl

set_option maxHeartbeats 4000000 in
theorem class_as_hit (why : Int) (e : Value) (tb : Nat) (o1 o2 : Value) (w : World) (_he : e.cells = #[e]) (he1 : e.oneCell' = true) (htl : tb < w.heap.size)
    (ht0 : w.cell? ⟨tb, 0, none⟩ = some o1) (ht1 : w.cell? ⟨tb, 1, none⟩ = some o2) (hf0 : w.frozen? ⟨tb, 0, none⟩ = false) (hf1 : w.frozen? ⟨tb, 1, none⟩ = false) (vb : Nat) (hvb : vb < w.heap.size) (hv : w.cell? ⟨vb, 0, none⟩ = some (.pointer (some ⟨tb, 0, none⟩))) :
    Calls Tryz.prog 162 #[.iface 133 (.agg #[.int .i64 why, e]), .iface 189 (.pointer (some ⟨tb, 0, none⟩)), .agg #[.pointer (some ⟨6, 189, none⟩), .pointer (some ⟨vb, 0, none⟩), .int .u64 150], .iface 230 (.agg #[.pointer (some ⟨6, 133, none⟩)])] w fun ev w' =>
      ev = .returned (.bool true) ∧ w'.cell? ⟨tb, 0, none⟩ = some (.int .i64 why) ∧ Below tb w w' := by
  have hTO := @run_callFunc_extern Tryz.prog 130 _ ReflectliteType.typeOf Tryz.func130 (by kernel_rfl) (by kernel_rfl) (by kernel_rfl) (by kernel_rfl)
  have hAT := @run_callFunc_extern Tryz.prog 242 _ (ReflectliteType.relation "AssignableTo" ReflectliteType.assignableTo) Tryz.func242 (by kernel_rfl) (by kernel_rfl) (by kernel_rfl) (by kernel_rfl)
  have hEl := @run_callFunc_extern Tryz.prog 181 _ (ReflectliteValue.method (ReflectliteValue.valueError "reflectlite.Value.Elem" 0) ReflectliteValue.elem) Tryz.func181 (by kernel_rfl) (by kernel_rfl) (by kernel_rfl) (by kernel_rfl)
  have hSe := @run_callFunc_extern Tryz.prog 182 _ ReflectliteValue.set Tryz.func182 (by kernel_rfl) (by kernel_rfl) (by kernel_rfl) (by kernel_rfl)
  have hVO := @run_callFunc_extern Tryz.prog 159 _ (fun args => ReflectliteValue.unpack (args.getD 0 (.tuple #[]))) Tryz.func159 (by kernel_rfl) (by kernel_rfl) (by kernel_rfl) (by kernel_rfl)
  have tO := cw_typeOfS
  have mA := cw_methodAssignableTo
  have aS := cw_assS
  have vS := cw_valueOfS
  have el : ∀ o, (ReflectliteValue.method (ReflectliteValue.valueError "reflectlite.Value.Elem" 0) ReflectliteValue.elem #[.agg #[.pointer (some ⟨6, 189, none⟩), .pointer (some ⟨vb, 0, none⟩), .int .u64 150]]).run Tryz.prog (w.alloc o)
      = .ok (.agg #[.pointer (some ⟨6, 133, none⟩), .pointer (some ⟨tb, 0, none⟩), .int .u64 409]) (w.alloc o) :=
    fun o => cw_elemVP _ _ _ ((World.cell?_alloc_lt _ _ _ hvb).trans hv)
  have st : ∀ o, (ReflectliteValue.set #[.agg #[.pointer (some ⟨6, 133, none⟩), .pointer (some ⟨tb, 0, none⟩), .int .u64 409], .agg #[.pointer (some ⟨6, 133, none⟩), .pointer (some ⟨w.heap.size + 1, 0, none⟩), .int .u64 153]]).run Tryz.prog ((w.alloc o).alloc (.cells #[.int .i64 why, e] 133))
      = .ok (.tuple #[]) ((((w.alloc o).alloc (.cells #[.int .i64 why, e] 133)).setCell ⟨tb, 0, none⟩ (.int .i64 why)).setCell ⟨tb, 1, none⟩ e) := fun o => by
    have hb : ((w.alloc o).alloc (.cells #[.int .i64 why, e] 133)).heap[w.heap.size + 1]? = some (.cells #[.int .i64 why, e] 133 (0, 0)) := heap_new (by simp)
    exact cw_setS tb (w.heap.size + 1) why e o1 o2 _ he1 (cell_blk hb 0) (cell_blk hb 1)
      (by rw [World.cell?_alloc_lt _ _ _ (by simp; omega), World.cell?_alloc_lt _ _ _ htl]; exact ht0) (by rw [World.cell?_alloc_lt _ _ _ (by simp; omega), World.cell?_alloc_lt _ _ _ htl]; exact ht1)
      (by rw [World.frozen?_alloc_old _ _ _ (by simp; omega), World.frozen?_alloc_old _ _ _ (Nat.ne_of_lt htl)]; exact hf0) (by rw [World.frozen?_alloc_old _ _ _ (by simp; omega), World.frozen?_alloc_old _ _ _ (Nat.ne_of_lt htl)]; exact hf1)
  go_enter Tryz.func162, Tryz.ntmps162
  go_wp2
  refine wp_loop_rounds 1 ?_
  rw [rounds_succ]
  go_wp2
  go_ret
  refine ⟨rfl, ?_, ?_⟩
  · rw [World.cell?_alloc_lt _ _ _ (by simp; omega), World.cell?_alloc_lt _ _ _ (by simp; omega), World.cell?_setCell_other _ _ _ _ (by simp), World.cell?_setCell_same' _ _ _ (by simp [ht0])]
  · go_grown

end Go.Vir
