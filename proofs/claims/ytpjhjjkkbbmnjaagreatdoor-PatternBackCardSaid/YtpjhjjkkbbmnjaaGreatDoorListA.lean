/- Plain laws on lists: sorted and each once. No program. -/
import Derived.Lib.SlicesCompact
namespace Go.Vir
open Go Go.Lib

theorem mem_compactUpTo (d : Array Int) (x : Int) : ∀ m, x ∈ compactUpTo d m ↔ ∃ j, j < m ∧ d[j]! = x
  | 0 => by simp [compactUpTo]
  | m + 1 => by
    rw [compactUpTo_succ, List.mem_append, mem_compactUpTo d x m]
    by_cases hk : keeps d m = true
    · rw [if_pos hk]
      constructor
      · rintro (⟨j, hj, h⟩ | h)
        · exact ⟨j, by omega, h⟩
        · exact ⟨m, by omega, (List.mem_singleton.1 h).symm⟩
      · rintro ⟨j, hj, h⟩
        rcases Nat.lt_or_ge j m with h1 | h1
        · exact .inl ⟨j, h1, h⟩
        · obtain rfl : j = m := by omega
          exact .inr (by simp [h])
    · rw [if_neg hk]
      simp only [keeps, decide_eq_true_eq, not_or, Decidable.not_not] at hk
      simp only [List.not_mem_nil, or_false]
      constructor
      · rintro ⟨j, hj, h⟩
        exact ⟨j, by omega, h⟩
      · rintro ⟨j, hj, h⟩
        rcases Nat.lt_or_ge j m with h1 | h1
        · exact ⟨j, h1, h⟩
        · obtain rfl : j = m := by omega
          exact ⟨j - 1, by omega, by rw [← hk.2]; exact h⟩

theorem pairwise_compactUpTo (d : Array Int) (hd : ∀ i j, i ≤ j → j < d.size → d[i]! ≤ d[j]!) : ∀ m, m ≤ d.size → (compactUpTo d m).Pairwise (· < ·)
  | 0, _ => by simp [compactUpTo]
  | m + 1, hm => by
    rw [compactUpTo_succ, List.pairwise_append]
    refine ⟨pairwise_compactUpTo d hd m (by omega), by split <;> simp, ?_⟩
    intro a ha b hb
    by_cases hk : keeps d m = true
    · rw [if_pos hk] at hb
      simp only [List.mem_singleton] at hb
      subst hb
      obtain ⟨j, hj, rfl⟩ := (mem_compactUpTo d a m).1 ha
      simp only [keeps, decide_eq_true_eq] at hk
      have h1 := hd j (m - 1) (by omega) (by omega)
      have h2 := hd (m - 1) m (by omega) (by omega)
      rcases hk with h | h
      · omega
      · omega
    · rw [if_neg hk] at hb; cases hb

/-- The numbers of a list, each once, rising. -/
def uniq (zs : List Int) : List Int := compact (zs.mergeSort fun x y => decide (x ≤ y))

theorem mem_uniq (zs : List Int) (x : Int) : x ∈ uniq zs ↔ x ∈ zs := by
  unfold uniq compact
  rw [mem_compactUpTo]
  rw [← List.mem_mergeSort (l := zs) (le := fun x y => decide (x ≤ y))]
  generalize zs.mergeSort (fun x y => decide (x ≤ y)) = l
  constructor
  · rintro ⟨j, hj, rfl⟩
    rw [getElem!_pos _ j (by simpa using hj)]
    simp
  · intro h
    obtain ⟨j, hj, rfl⟩ := List.getElem_of_mem h
    exact ⟨j, hj, by rw [getElem!_pos _ j (by simpa using hj)]; simp⟩

theorem pairwise_uniq (zs : List Int) : (uniq zs).Pairwise (· < ·) := by
  unfold uniq compact
  have hs : (zs.mergeSort fun x y => decide (x ≤ y)).Pairwise (fun x y => decide (x ≤ y) = true) :=
    List.pairwise_mergeSort (fun a b c h1 h2 => by simp at *; omega) (fun a b => by simp; omega) zs
  generalize zs.mergeSort (fun x y => decide (x ≤ y)) = l at *
  refine pairwise_compactUpTo _ (fun i j hij hj => ?_) _ (by simp)
  have hj' : j < l.length := by simpa using hj
  rw [getElem!_pos _ i (by simp; omega), getElem!_pos _ j (by simpa using hj')]
  rcases Nat.lt_or_ge i j with h | h
  · have := List.pairwise_iff_getElem.1 hs i j (by omega) hj' h
    simpa using this
  · obtain rfl : i = j := by omega
    simp

theorem length_rising (lo hi : Int) : ∀ (l : List Int), l.Pairwise (· < ·) → (∀ x ∈ l, lo ≤ x ∧ x ≤ hi) → l ≠ [] → (l.length : Int) ≤ hi - lo + 1
  | [], _, _, h => absurd rfl h
  | [x], _, h, _ => by have := h x (by simp); simp; omega
  | x :: y :: t, hp, h, _ => by
    have h1 := List.pairwise_cons.1 hp
    have ih := length_rising (x + 1) hi (y :: t) h1.2 (fun z hz => ⟨by have := h1.1 z hz; omega, (h z (List.mem_cons_of_mem _ hz)).2⟩) (by simp)
    have := (h x (by simp)).1
    simp only [List.length_cons] at *
    omega
end Go.Vir
