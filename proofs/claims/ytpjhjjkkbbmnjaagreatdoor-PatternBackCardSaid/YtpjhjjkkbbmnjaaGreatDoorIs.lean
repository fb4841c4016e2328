/- errors.Is at a sentinel and itself (after the kit's worked walk SentryIs); pattern.told. -/
import Derived.Test.YtpjhjjkkbbmnjaaGreatDoorWkN
namespace Go.Vir
open Go Go.RowKit Go.Proofs Go.Extern.Stop Go.Stop Go.Extern

theorem is_typeOf (v : Value) (w : World) : (ReflectliteType.typeOf #[.iface 286 v]).run Tryz.prog w = .ok (.iface 230 (.agg #[.pointer (some ⟨6, 286, none⟩)])) w := by kernel_rfl
/-- The entry of rtype.Comparable. -/
def cmpM : Array Value → Sem Value := ReflectliteType.method fun t => do Rtype.noPackHeld "Comparable" t; pure (.bool (← typeInfo t).comparable)
theorem is_comparable (w : World) : (cmpM #[.agg #[.pointer (some ⟨6, 286, none⟩)]]).run Tryz.prog w = .ok (.bool true) w := by kernel_rfl
theorem is_methodComparable (v : Value) (w : World) : (Go.method 416 230 v "Comparable").run Tryz.prog w = .ok (243, v) w := by kernel_rfl
theorem is_comp : (Tryz.prog.info? 286).map (·.comparable) = some true := by kernel_rfl
theorem is_size : (Tryz.prog.info? 304).map (·.size) = some 1 := by kernel_rfl

theorem is_same (a : Addr) (w : World) :
    Calls Tryz.prog 88 #[.iface 286 (.pointer (some a)), .iface 286 (.pointer (some a))] w fun e w' => e = .returned (.bool true) ∧ w' = w := by
  obtain ⟨i, hi, hcmp⟩ := Option.map_eq_some_iff.1 is_comp
  obtain ⟨j, hj, hjs⟩ := Option.map_eq_some_iff.1 is_size
  have h8 := @run_callFunc_extern Tryz.prog 130 _ ReflectliteType.typeOf Tryz.func130 (by kernel_rfl) (by kernel_rfl) (by kernel_rfl) (by kernel_rfl)
  have h32 := @run_callFunc_extern Tryz.prog 243 _ cmpM Tryz.func243 (by kernel_rfl) (by kernel_rfl) (by kernel_rfl) (by kernel_rfl)
  have tT := is_typeOf
  have cT := is_comparable
  have mR := is_methodComparable
  have heq := run_eql_iface_ptr_same (P := Tryz.prog) w a Tryz.underlying68 Tryz.underlying286 hi hcmp hj
  go_enter Tryz.func88, Tryz.ntmps88
  go_wp2
  refine wp_loop_rounds 1 ?_
  rw [rounds_succ]
  go_wp2
  go_ret
  exact ⟨rfl, rfl⟩

theorem pattern_told (p : Addr) (w : World) (hg : w.cell? ⟨0, 0, none⟩ = some (.iface 286 (.pointer (some p)))) :
    Calls Tryz.prog 52 #[.iface 286 (.pointer (some p))] w fun e w' => e = .returned (.int .i64 80) ∧ w = w' := by
  go_enter Tryz.func52, Tryz.ntmps52
  go_wp2_with (go_at_call 88; refine (is_same _ _).mono ?_; rintro e w' ⟨rfl, rfl⟩)
  go_ret
  exact ⟨rfl, rfl⟩
end Go.Vir
