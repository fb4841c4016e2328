/- A slice in a field of a struct of the call's own, appended to. No program. -/
import Derived.Test.YtpjhjjkkbbmnjaaGreatDoorRange
namespace Go.Vir
open Go Go.RowKit

section
variable {W w1 : World} {n₀ B j : Nat} {cs : Array Value} {t e : TypeId} {size : Nat} {v v' u : Value} {k m : Nat} {xs ys : List Value} {tmp : Obj}

theorem blk_not_row (h : W.heap[B]? = some (.cells cs t (0, 0))) (hte : t ≠ e) (hr : W.ownsRow n₀ e size v k xs) : some B ≠ v.ownBlock := by
  rcases hr.2 with ⟨rfl, _⟩ | ⟨g, cap, cur, rfl, _, hgb, _⟩
  · simp [Value.ownBlock]
  · intro e'
    obtain rfl : B = g := by simpa [Value.ownBlock] using e'
    rw [h] at hgb
    simp at hgb
    exact hte hgb.2
theorem grownBy_setCell2 (W : World) (b j : Nat) (v : Value) : W.grownBy (W.setCell ⟨b, j, none⟩ v) (some b) :=
  ⟨rfl, rfl, rfl, by simp [World.setCell], fun k hk hne => Below.heap_setCell _ _ _ _ (fun e => hne (by rw [e]))⟩
theorem setCell_blk (h : W.heap[B]? = some (.cells cs t (0, 0))) (j : Nat) (u : Value) : (W.setCell ⟨B, j, none⟩ u).heap[B]? = some (.cells (cs.setIfInBounds j u) t (0, 0)) := by
  simp [World.setCell, Array.getElem?_modify, h]

theorem field_appended (hb : W.heap[B]? = some (.cells cs t (0, 0))) (hte : t ≠ e) (hrow : W.ownsRow n₀ e size v k xs) (hn₀ : n₀ ≤ W.heap.size) (hB : n₀ ≤ B)
    (hown' : w1.ownsRow n₀ e size v' m ys) (hgrow : (W.alloc tmp).grownBy w1 v.ownBlock) :
    w1.heap[B]? = some (.cells cs t (0, 0)) ∧ (w1.setCell ⟨B, j, none⟩ v').heap[B]? = some (.cells (cs.setIfInBounds j v') t (0, 0)) ∧ (w1.setCell ⟨B, j, none⟩ v').ownsRow n₀ e size v' m ys ∧
      Below n₀ W (w1.setCell ⟨B, j, none⟩ v') ∧ (∀ (b : Nat) (cs' : Array Value) (t' : TypeId), W.heap[b]? = some (.cells cs' t' (0, 0)) → t' ≠ e → b ≠ B → (w1.setCell ⟨B, j, none⟩ v').heap[b]? = some (.cells cs' t' (0, 0))) := by
  have hkeep : ∀ (b : Nat) (cs' : Array Value) (t' : TypeId), W.heap[b]? = some (.cells cs' t' (0, 0)) → t' ≠ e → w1.heap[b]? = some (.cells cs' t' (0, 0)) := fun b cs' t' h ht => by
    have hlt := (Array.getElem?_eq_some_iff.1 h).1
    exact (hgrow.block b (by simp; omega) (blk_not_row h ht hrow)).trans ((Below.heap_alloc W tmp b hlt).trans h)
  have h1 := hkeep B cs t hb hte
  refine ⟨h1, setCell_blk h1 j v', hown'.kept (grownBy_setCell2 w1 B j v') (.inr (blk_not_row h1 hte hown').symm), ?_, fun b cs' t' h ht hne => ?_⟩
  · refine (((Below.refl n₀ W).alloc hn₀ tmp).grown hgrow (by simp; omega) fun i ei => ?_).setCell (p := ⟨B, j, none⟩) hB v'
    rcases hrow.2 with ⟨rfl, _⟩ | ⟨g, cap, cur, rfl, hb, _, _⟩
    · simp [Value.ownBlock] at ei
    · obtain rfl : g = i := by simpa [Value.ownBlock] using ei
      exact hb
  · exact (Below.heap_setCell _ _ _ _ hne).trans (hkeep b cs' t' h ht)

theorem field_appended2 {n₁ : Nat} (hb : W.heap[B]? = some (.cells cs t (0, 0))) (hte : t ≠ e) (hrow : W.ownsRow n₁ e size v k xs) (hn₁ : n₁ ≤ W.heap.size) (hn₀ : n₀ ≤ n₁) (hB : n₀ ≤ B)
    (hown' : w1.ownsRow n₁ e size v' m ys) (hgrow : (W.alloc tmp).grownBy w1 v.ownBlock) :
    w1.heap[B]? = some (.cells cs t (0, 0)) ∧ (w1.setCell ⟨B, j, none⟩ v').heap[B]? = some (.cells (cs.setIfInBounds j v') t (0, 0)) ∧ (w1.setCell ⟨B, j, none⟩ v').ownsRow n₁ e size v' m ys ∧
      Below n₀ W (w1.setCell ⟨B, j, none⟩ v') ∧ (∀ b : Nat, b < n₁ → b ≠ B → (w1.setCell ⟨B, j, none⟩ v').heap[b]? = W.heap[b]?) := by
  have hlow : ∀ g, v.ownBlock = some g → n₁ ≤ g := fun g hg => (row_data hrow g hg).1
  have hkeep : ∀ b : Nat, b < W.heap.size → some b ≠ v.ownBlock → w1.heap[b]? = W.heap[b]? := fun b hlt ht => (hgrow.block b (by simp; omega) ht).trans (Below.heap_alloc W tmp b hlt)
  have h1 : w1.heap[B]? = some (.cells cs t (0, 0)) := (hkeep B (Array.getElem?_eq_some_iff.1 hb).1 (blk_not_row hb hte hrow)).trans hb
  refine ⟨h1, setCell_blk h1 j v', hown'.kept (grownBy_setCell2 w1 B j v') (.inr (blk_not_row h1 hte hown').symm), ?_, fun b h hne => ?_⟩
  · exact (((Below.refl n₀ W).alloc (by omega) tmp).grown hgrow (by simp; omega) fun i ei => by have := hlow i ei; omega).setCell (p := ⟨B, j, none⟩) hB v'
  · exact (Below.heap_setCell _ _ _ _ hne).trans (hkeep b (by omega) (fun e' => by have := hlow b e'.symm; omega))
end
end Go.Vir
