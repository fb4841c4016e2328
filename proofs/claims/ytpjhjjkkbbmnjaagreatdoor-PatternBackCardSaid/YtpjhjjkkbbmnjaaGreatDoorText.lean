/- Plain laws on texts: splitting by a byte, joining, trimming. No program. -/
import Derived.Lib.Split
import Derived.Lib.Join
import Derived.Lib.Repeat
import Derived.Lib.TrimByte
namespace Go.Vir
open Go Go.Lib

/-- A text, parted by a byte. -/
def splitL (c : UInt8) : List UInt8 → List (List UInt8)
  | [] => [[]]
  | x :: t => if x = c then [] :: splitL c t else match splitL c t with
    | [] => [[x]]
    | h :: r => (x :: h) :: r
theorem splitL_ne (c : UInt8) (l : List UInt8) : splitL c l ≠ [] := by
  cases l with
  | nil => simp [splitL]
  | cons x t =>
    unfold splitL
    split
    · simp
    · split <;> simp
theorem splitL_miss (c : UInt8) : ∀ l : List UInt8, c ∉ l → splitL c l = [l]
  | [], _ => rfl
  | x :: t, h => by
    simp only [List.mem_cons, not_or] at h
    rw [splitL, if_neg (fun e => h.1 e.symm), splitL_miss c t h.2]
theorem splitL_app (c : UInt8) : ∀ (a b : List UInt8), c ∉ a → splitL c (a ++ c :: b) = a :: splitL c b
  | [], b, _ => by simp [splitL]
  | x :: t, b, h => by
    simp only [List.mem_cons, not_or] at h
    rw [List.cons_append, splitL, if_neg (fun e => h.1 e.symm), splitL_app c t b h.2]
theorem index_one (c : UInt8) : ∀ l : List UInt8, (index l [c] = -1 ∧ c ∉ l) ∨ ∃ i : Nat, index l [c] = i ∧ i < l.length ∧ c ∉ l.take i ∧ l = l.take i ++ c :: l.drop (i + 1)
  | [] => .inl ⟨rfl, by simp⟩
  | x :: t => by
    unfold index
    by_cases hx : c = x
    · subst hx
      exact .inr ⟨0, by simp, by simp, by simp, by rfl⟩
    · have h0 : ([c] : List UInt8).isPrefixOf (x :: t) = false := by
        show (c == x && _) = false
        rw [beq_eq_false_iff_ne.2 hx]; rfl
      rw [h0]
      simp only [Bool.false_eq_true, if_false]
      rcases index_one c t with ⟨h1, h2⟩ | ⟨i, h1, h2, h3, h4⟩
      · exact .inl ⟨by simp [h1], by simp [hx, h2]⟩
      · refine .inr ⟨i + 1, ?_, by simpa using h2, by simp [hx, h3], ?_⟩
        · rw [h1]
          have : ((i : Int) == -1) = false := by rw [beq_eq_false_iff_ne]; omega
          rw [this]; simp
        · simp only [List.take_succ_cons, List.drop_succ_cons, List.cons_append]
          rw [← h4]
theorem splitK_L (c : UInt8) : ∀ (n : Nat) (l : List UInt8), l.length ≤ n → splitK [c] 0 (count l [c]) l = splitL c l ∧ count l [c] + 1 = (splitL c l).length
  | 0, l, h => by
    obtain rfl : l = [] := List.eq_nil_of_length_eq_zero (by omega)
    exact ⟨rfl, rfl⟩
  | n + 1, l, h => by
    rcases index_one c l with ⟨h1, h2⟩ | ⟨i, h1, h2, h3, h4⟩
    · rw [count_miss h1, splitL_miss c l h2]
      exact ⟨rfl, rfl⟩
    · rw [count_hit (by simp) h1, Nat.add_comm 1, splitK, h1]
      have : ((i : Int) == -1) = false := by rw [beq_eq_false_iff_ne]; omega
      rw [this]
      simp only [Bool.false_eq_true, if_false, Int.toNat_natCast, Nat.add_zero, List.length_cons, List.length_nil, Nat.zero_add]
      obtain ⟨a1, a2⟩ := splitK_L c n (l.drop (i + 1)) (by simp; omega)
      have h5 := splitL_app c (l.take i) (l.drop (i + 1)) h3
      rw [← h4] at h5
      rw [a1, h5]
      exact ⟨rfl, by simp [a2]⟩
theorem split_L (c : UInt8) (l : List UInt8) : split l [c] = splitL c l := (splitK_L c _ l (Nat.le_refl _)).1
theorem splitL_mem (c : UInt8) : ∀ (l x : List UInt8), x ∈ splitL c l → x.length ≤ l.length ∧ c ∉ x ∧ ∀ b ∈ x, b ∈ l
  | [], x, h => by simp [splitL] at h; subst h; simp
  | y :: t, x, h => by
    unfold splitL at h
    split at h
    · rename_i hy
      simp only [List.mem_cons] at h
      rcases h with rfl | h
      · simp
      · obtain ⟨h1, h2, h3⟩ := splitL_mem c t x h
        exact ⟨by simp; omega, h2, fun b hb => List.mem_cons_of_mem _ (h3 b hb)⟩
    · rename_i hy
      split at h
      · rename_i h0; exact absurd h0 (splitL_ne c t)
      · rename_i hd r h0
        simp only [List.mem_cons] at h
        rcases h with rfl | h
        · obtain ⟨h1, h2, h3⟩ := splitL_mem c t hd (by rw [h0]; simp)
          refine ⟨by simp; omega, by simp only [List.mem_cons, not_or]; exact ⟨fun e => hy e.symm, h2⟩, fun b hb => ?_⟩
          simp only [List.mem_cons] at hb ⊢
          rcases hb with rfl | hb
          · exact .inl rfl
          · exact .inr (h3 b hb)
        · obtain ⟨h1, h2, h3⟩ := splitL_mem c t x (by rw [h0]; simp [h])
          exact ⟨by simp; omega, h2, fun b hb => List.mem_cons_of_mem _ (h3 b hb)⟩
theorem splitL_length (c : UInt8) : ∀ l : List UInt8, (splitL c l).length ≤ l.length + 1
  | [] => by simp [splitL]
  | y :: t => by
    have := splitL_length c t
    unfold splitL
    split
    · simp; omega
    · split
      · simp
      · rename_i hd r h0
        rw [h0] at this
        simp at this ⊢; omega

theorem join_length (sep : List UInt8) (L : Nat) : ∀ xs : List (List UInt8), (∀ x ∈ xs, x.length ≤ L) → (join xs sep).length ≤ xs.length * (L + sep.length)
  | [], _ => by simp [join_nil]
  | [x], h => by have := h x (by simp); simp [join_one]; omega
  | x :: y :: t, h => by
    have h1 := h x (by simp)
    have h2 := join_length sep L (y :: t) (fun z hz => h z (List.mem_cons_of_mem _ hz))
    have h3 : join (x :: y :: t) sep = x ++ (sep ++ join (y :: t) sep) := by
      rw [join_cons, join_cons]; simp [joinTail]
    rw [h3]
    simp only [List.length_append, List.length_cons] at *
    rw [Nat.add_mul (t.length + 1) 1]
    omega
end Go.Vir
