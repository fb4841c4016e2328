/- viramalaw09: Cut. -/
import Derived.Test.YtpjhjjkkbbmnjaaGreatDoorWkX
namespace Go.Vir
open Go Go.RowKit Go.Proofs Go.Shelf
attribute [local go_sem] Oper.semAt_some

theorem law_Cut (st : Bool) (A : Option Addr) (n c : Nat) (w : World) (hc : n ≤ c) : Calls Tryz.prog 15 #[.agg #[.bool st, .slice A n c]] w fun e w' => e = .returned (.agg #[.bool st, .slice A (min n 12) c]) ∧ Below w.heap.size w w' := by
  go_enter Tryz.func15, Tryz.ntmps15
  go_wp2_with fail
  go_region
  go_wp2
  refine bodyPost_ret (v := .agg #[.bool st, .slice A (min n 12) c]) ?_ rfl ⟨rfl, ?_⟩
  · rw [show (min (n : Int) 12).toNat = min n 12 by omega]
    simp [results, Tryz.results15, go_sem]
  · exact Below.drew (by go_grown)
end Go.Vir
