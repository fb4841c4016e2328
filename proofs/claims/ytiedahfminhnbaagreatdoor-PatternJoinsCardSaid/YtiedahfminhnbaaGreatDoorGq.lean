/- The rows of viramalaw09: a pattern that comes in, and that its slice is nil only with capacity 0. -/
import Derived.Test.YtiedahfminhnbaaGreatDoorGp
namespace Go.Vir
open Go Go.RowKit Go.Proofs Go.ChangeShapes Go.WideShapes Go.ChangeAt

set_option maxRecDepth 100000 in
theorem pattern_nil {H : Type} {enc : TypeId × Value → H} {W : World} {d : DataW H} {p : List MemPlace} {st : Bool} {A : Option Addr} {m c : Nat}
    (h : DataW.Trod enc Tryz.prog W 0 (fun _ => true) true 24 (.agg #[.bool st, .slice A m c]) d p) (hA : A = none) : c = 0 := by
  obtain ⟨fuel, hf⟩ := h
  obtain ⟨y0, y1, n, hx, hl, h0, h1⟩ := trod_struct2 Tryz.underlying24 hf
  have c22 : Tryz.prog.cellsOf 22 = 1 := by kernel_rfl
  have h1' : DataW.trod enc Tryz.prog W 0 (fun _ => true) true n 22 [.slice A m c] = some y1 := by
    have := h1
    simp only [Value.cells, c22] at this
    exact this
  rcases DataW.trod_slice Tryz.underlying22 h1' with ⟨e1, _⟩ | ⟨a, len, cap, elems, rest, n', _, e1, _⟩
  · simp at e1; exact e1.2.2
  · subst hA; simp at e1
end Go.Vir
