/- errors.As at class.wrong as a whole, class.told. -/
import Derived.Test.YtpjhjjkkbbmnjaaGreatDoorErrs
namespace Go.Vir
open Go Go.RowKit Go.Proofs Go.Extern.Stop Go.Stop Go.Extern

theorem frozen_of_block {w W : World} {b o : Nat} (h : W.heap[b]? = w.heap[b]?) : W.frozen? ⟨b, o, none⟩ = w.frozen? ⟨b, o, none⟩ := by
  simp [World.frozen?, h]

set_option maxHeartbeats 4000000 in
theorem class_as (why : Int) (e : Value) (tb : Nat) (o1 o2 : Value) (w : World) (he : e.cells = #[e]) (he1 : e.oneCell' = true) (htl : tb < w.heap.size)
    (hg : w.cell? ⟨2, 0, none⟩ = some (.iface 230 (.agg #[.pointer (some ⟨6, 68, none⟩)]))) (hgl : 2 < w.heap.size)
    (ht0 : w.cell? ⟨tb, 0, none⟩ = some o1) (ht1 : w.cell? ⟨tb, 1, none⟩ = some o2) (hf0 : w.frozen? ⟨tb, 0, none⟩ = false) (hf1 : w.frozen? ⟨tb, 1, none⟩ = false) :
    Calls Tryz.prog 124 #[.iface 133 (.agg #[.int .i64 why, e]), .iface 189 (.pointer (some ⟨tb, 0, none⟩))] w fun ev w' =>
      ev = .returned (.bool true) ∧ w'.cell? ⟨tb, 0, none⟩ = some (.int .i64 why) ∧ Below tb w w' := by
  have h6 := @run_callFunc_extern Tryz.prog 159 _ (fun args => ReflectliteValue.unpack (args.getD 0 (.tuple #[]))) Tryz.func159 (by kernel_rfl) (by kernel_rfl) (by kernel_rfl) (by kernel_rfl)
  have h7 := @run_callFunc_extern Tryz.prog 160 _ (ReflectliteValue.methodAny (ReflectliteValue.valueError "reflectlite.Value.Type" 0) (fun t _ _ _ => ReflectliteType.toType t)) Tryz.func160 (by kernel_rfl) (by kernel_rfl) (by kernel_rfl) (by kernel_rfl)
  have h8 := @run_callFunc_extern Tryz.prog 161 _ (ReflectliteValue.method (ReflectliteValue.valueError "reflectlite.Value.IsNil" 0) ReflectliteValue.isNil) Tryz.func161 (by kernel_rfl) (by kernel_rfl) (by kernel_rfl) (by kernel_rfl)
  have h27 := @run_callFunc_extern Tryz.prog 231 _ (ReflectliteType.abiMethod fun t => do pure (.int .u8 (← Rtype.kind t))) Tryz.func231 (by kernel_rfl) (by kernel_rfl) (by kernel_rfl) (by kernel_rfl)
  have h37 := @run_callFunc_extern Tryz.prog 244 _ (ReflectliteType.method ReflectliteType.elem) Tryz.func244 (by kernel_rfl) (by kernel_rfl) (by kernel_rfl) (by kernel_rfl)
  have h38 := @run_callFunc_extern Tryz.prog 245 _ (ReflectliteType.relation "Implements" ReflectliteType.implements_) Tryz.func245 (by kernel_rfl) (by kernel_rfl) (by kernel_rfl) (by kernel_rfl)
  have f6 := cw_valueOfP
  have f7 := cw_typeP
  have mK := cw_methodKind
  have mE := cw_methodElem
  have mI := cw_methodImplements
  have kP := cw_kindP
  have kS := cw_kindS
  have eP := cw_elemP
  have iS := cw_implS
  have n8 : ∀ o, (ReflectliteValue.method (ReflectliteValue.valueError "reflectlite.Value.IsNil" 0) ReflectliteValue.isNil #[.agg #[.pointer (some ⟨6, 189, none⟩), .pointer (some ⟨w.heap.size, 0, none⟩), .int .u64 150]]).run Tryz.prog ((w.alloc (.cells #[.pointer (some ⟨tb, 0, none⟩)] 189)).alloc o) = .ok (.bool false) ((w.alloc (.cells #[.pointer (some ⟨tb, 0, none⟩)] 189)).alloc o) := fun o =>
    cw_isNilP _ ⟨tb, 0, none⟩ _ (cell_blk ((heap_old (by simp)).trans (heap_new rfl)) 0)
  have hc := fun W h1 h2 h3 h4 h5 h6 h7 => class_as_hit why e tb o1 o2 W he he1 h1 h2 h3 h4 h5 w.heap.size h6 h7
  have Hc := Lib.hid hc
  clear hc
  go_enter Tryz.func124, Tryz.ntmps124
  go_wp2_with (go_at_call 162; refine (Hc.out _ (by simp; omega) ((World.cell?_of_block (Below.block (B := w.heap.size) (by go_grown) _ htl)).trans ht0) ((World.cell?_of_block (Below.block (B := w.heap.size) (by go_grown) _ htl)).trans ht1) ((frozen_of_block (Below.block (B := w.heap.size) (by go_grown) _ htl)).trans hf0) ((frozen_of_block (Below.block (B := w.heap.size) (by go_grown) _ htl)).trans hf1) (by simp; omega) (cell_blk (cs := #[.pointer (some ⟨tb, 0, none⟩)]) (t := 189) (m := (0, 0)) (by simp (disch := (first | omega | (simp only [World.size_alloc]; omega))) only [heap_new, heap_old]) 0)).mono ?_; rintro ev w1 ⟨rfl, hr1, hr2⟩)
  go_ret
  exact ⟨rfl, hr1, Below.trans (by go_grown) hr2⟩

set_option maxHeartbeats 4000000 in
theorem class_told (why : Int) (e : Value) (w : World) (he : e.cells = #[e]) (he1 : e.oneCell' = true)
    (hg : w.cell? ⟨2, 0, none⟩ = some (.iface 230 (.agg #[.pointer (some ⟨6, 68, none⟩)]))) (hgl : 2 < w.heap.size) :
    Calls Tryz.prog 90 #[.iface 133 (.agg #[.int .i64 why, e])] w fun ev w' => ev = .returned (.int .i64 why) ∧ Below w.heap.size w w' := by
  have hc : ∀ o1 o2, Calls Tryz.prog 124 #[.iface 133 (.agg #[.int .i64 why, e]), .iface 189 (.pointer (some ⟨w.heap.size, 0, none⟩))] (w.alloc (.cells #[o1, o2] 133)) fun ev w' =>
      ev = .returned (.bool true) ∧ w'.cell? ⟨w.heap.size, 0, none⟩ = some (.int .i64 why) ∧ Below w.heap.size (w.alloc (.cells #[o1, o2] 133)) w' := fun o1 o2 => by
    have hb : (w.alloc (.cells #[o1, o2] 133)).heap[w.heap.size]? = some (.cells #[o1, o2] 133 (0, 0)) := heap_new rfl
    exact class_as why e w.heap.size o1 o2 _ he he1 (by simp) ((World.cell?_alloc_lt _ _ _ hgl).trans hg) (by simp; omega) (cell_blk hb 0) (cell_blk hb 1) (frozen_blk hb 0) (frozen_blk hb 1)
  have Hc := Lib.hid hc
  clear hc hg
  go_enter Tryz.func90, Tryz.ntmps90
  go_wp2_with (go_at_call 124; refine (Hc.out _ _).mono ?_; rintro ev w1 ⟨rfl, hr1, hr2⟩)
  go_ret
  exact ⟨rfl, Below.trans (by go_grown) hr2⟩

set_option maxHeartbeats 4000000 in
theorem class_told_nil (w : World) : Calls Tryz.prog 90 #[.nilIface] w fun ev w' => ev = .returned (.int .i64 0) ∧ Below w.heap.size w w' := by
  go_enter Tryz.func90, Tryz.ntmps90
  go_wp2_with (go_at_call 124; refine (class_as_nil _ _).mono ?_; rintro ev w1 ⟨rfl, rfl⟩)
  go_ret
  exact ⟨rfl, by go_grown⟩
end Go.Vir
