/- viramalaw09: few. -/
import Derived.Test.YtpjhjjkkbbmnjaaGreatDoorWkX
namespace Go.Vir
open Go Go.RowKit Go.Proofs Go.Shelf
attribute [local go_sem] Oper.semAt_some

theorem law_few (A : Option Addr) (n c : Nat) (w : World) (hc : n ≤ c) : Calls Tryz.prog 22 #[.slice A n c] w fun e w' => e = .returned (.slice A (min n 40) c) ∧ w = w' := by
  go_enter Tryz.func22, Tryz.ntmps22
  go_wp2_with fail
  go_ret
  refine ⟨?_, rfl⟩
  rw [show (min (n : Int) 40).toNat = min n 40 by omega]
  rfl

end Go.Vir
