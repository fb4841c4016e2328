/- What patterns fit: plain laws on lists. No program. -/
import Derived.Test.YtpjhjjkkbbmnjaaGreatDoorWkE
namespace Go.Vir

/-- One item fits numbers. -/
def oneB (x : Int × Int) (l : List Int) : Bool := l.all (bitB x.1) && (if x.2 = 0 then l.length == 1 else if x.2 = 1 then true else l.length % 2 == 0)
/-- Items fit numbers, one behind the other. -/
def mtB : List (Int × Int) → List Int → Bool
  | [], l => l.isEmpty
  | x :: xs, l => (List.range (l.length + 1)).any fun k => oneB x (l.take k) && mtB xs (l.drop k)

def seg (zs : List Int) (i j : Nat) : List Int := (zs.drop i).take (j - i)

theorem take_all {α : Type} (p : α → Bool) : ∀ (l : List α) (k : Nat), k ≤ l.length → ((l.take k).all p = true ↔ k ≤ (l.takeWhile p).length)
  | [], k, h => by simp at h; simp [h]
  | x :: xs, 0, _ => by simp
  | x :: xs, k + 1, h => by
    simp only [List.take_succ_cons, List.all_cons, Bool.and_eq_true, List.takeWhile_cons]
    by_cases hx : p x = true
    · simp only [hx, true_and, if_true, List.length_cons]
      rw [take_all p xs k (by simpa using h)]
      omega
    · simp [hx]

theorem seg_length (zs : List Int) (i j : Nat) (h : i ≤ j) (hj : j ≤ zs.length) : (seg zs i j).length = j - i := by
  simp [seg]; omega
theorem seg_all (s : Int) (zs : List Int) (i j : Nat) (h : i ≤ j) (hj : j ≤ zs.length) : (seg zs i j).all (bitB s) = true ↔ j ≤ i + runLen s zs i := by
  unfold seg runLen
  rw [take_all _ _ _ (by simp; omega)]
  omega

theorem mem_stepL_iff (s h : Int) (_h0 : 0 ≤ h) (_h2 : h ≤ 2) (zs : List Int) (a : Nat) (ha : a ≤ zs.length) (x : Int) :
    x ∈ stepL s h zs a ↔ ∃ j : Nat, x = j ∧ a ≤ j ∧ j ≤ zs.length ∧ oneB (s, h) (seg zs a j) = true := by
  have hr := runLen_le s zs a ha
  have key : (∃ j : Nat, x = j ∧ a ≤ j ∧ j ≤ zs.length ∧ oneB (s, h) (seg zs a j) = true) ↔
      ∃ j : Nat, x = j ∧ a ≤ j ∧ j ≤ a + runLen s zs a ∧ (if h = 0 then j - a = 1 else if h = 1 then True else (j - a) % 2 = 0) := by
    constructor
    · rintro ⟨j, hx, h1, hj, ho⟩
      simp only [oneB, Bool.and_eq_true] at ho
      rw [seg_length zs a j h1 hj] at ho
      refine ⟨j, hx, h1, (seg_all s zs a j h1 hj).1 ho.1, ?_⟩
      have := ho.2
      split <;> rename_i hh
      · simpa [hh] using this
      · split <;> rename_i hh2
        · trivial
        · simpa [hh, hh2] using this
    · rintro ⟨j, hx, h1, hj, ho⟩
      refine ⟨j, hx, h1, by omega, ?_⟩
      simp only [oneB, Bool.and_eq_true]
      rw [seg_length zs a j h1 (by omega)]
      refine ⟨(seg_all s zs a j h1 (by omega)).2 hj, ?_⟩
      by_cases hh : h = 0
      · simpa [hh] using ho
      · by_cases hh2 : h = 1
        · simp [hh2]
        · simpa [hh, hh2] using ho
  rw [key]
  unfold stepL
  by_cases hh : h = 0
  · simp only [hh, if_true]
    split
    · rename_i hl
      simp only [List.mem_singleton]
      constructor
      · rintro rfl; exact ⟨a + 1, by simp, by omega, by omega, by omega⟩
      · rintro ⟨j, rfl, h1, hj, hk⟩
        have : j = a + 1 := by omega
        rw [this]
    · rename_i hl
      simp only [List.not_mem_nil, false_iff]
      rintro ⟨j, rfl, h1, hj, hk⟩
      omega
  · by_cases hh2 : h = 1
    · simp only [hh2, if_true]
      simp only [show ¬ ((1 : Int) = 0) by decide, if_false, List.mem_map, List.mem_range]
      constructor
      · rintro ⟨i, hi, rfl⟩; exact ⟨a + i, rfl, by omega, by omega, trivial⟩
      · rintro ⟨j, rfl, h1, hj, _⟩; exact ⟨j - a, by omega, by rw [show a + (j - a) = j by omega]⟩
    · simp only [hh, hh2, if_false, List.mem_map, List.mem_filter, List.mem_range, beq_iff_eq]
      constructor
      · rintro ⟨i, ⟨hi, he⟩, rfl⟩; exact ⟨a + i, rfl, by omega, by omega, by omega⟩
      · rintro ⟨j, rfl, h1, hj, hk⟩; exact ⟨j - a, ⟨by omega, hk⟩, by rw [show a + (j - a) = j by omega]⟩

theorem seg_take (zs : List Int) (i j k : Nat) (hk : i + k ≤ j) : (seg zs i j).take k = seg zs i (i + k) := by
  simp only [seg, List.take_take]
  congr 1
  omega
theorem seg_drop (zs : List Int) (i j k : Nat) : (seg zs i j).drop k = seg zs (i + k) j := by
  simp only [seg, List.drop_take, List.drop_drop]
  congr 1
  omega

theorem mtB_cons (x : Int × Int) (xs : List (Int × Int)) (zs : List Int) (i j : Nat) (h : i ≤ j) (hj : j ≤ zs.length) :
    mtB (x :: xs) (seg zs i j) = true ↔ ∃ k, i ≤ k ∧ k ≤ j ∧ oneB x (seg zs i k) = true ∧ mtB xs (seg zs k j) = true := by
  simp only [mtB, List.any_eq_true, List.mem_range, Bool.and_eq_true]
  rw [seg_length zs i j h hj]
  constructor
  · rintro ⟨k, hk, h1, h2⟩
    rw [seg_take zs i j k (by omega)] at h1
    rw [seg_drop] at h2
    exact ⟨i + k, by omega, by omega, h1, h2⟩
  · rintro ⟨k, hk1, hk2, h1, h2⟩
    refine ⟨k - i, by omega, ?_, ?_⟩
    · rw [seg_take zs i j _ (by omega), show i + (k - i) = k by omega]; exact h1
    · rw [seg_drop, show i + (k - i) = k by omega]; exact h2

theorem mem_endsL (zs : List Int) : ∀ (xs : List (Int × Int)) (out : List Int), (∀ x ∈ xs, 0 ≤ x.2 ∧ x.2 ≤ 2) → (∀ y ∈ out, 0 ≤ y ∧ y ≤ zs.length) →
    ∀ x : Int, x ∈ endsL zs xs out ↔ ∃ i j : Nat, (i : Int) ∈ out ∧ x = j ∧ i ≤ j ∧ j ≤ zs.length ∧ mtB xs (seg zs i j) = true
  | [], out, _, ho, x => by
    constructor
    · intro hx
      have h1 := ho x hx
      obtain ⟨j, rfl⟩ := Int.eq_ofNat_of_zero_le h1.1
      exact ⟨j, j, hx, rfl, Nat.le_refl _, by omega, by simp [mtB, seg]⟩
    · rintro ⟨i, j, hi, rfl, h1, hj, hm⟩
      have h0 : (seg zs i j).length = 0 := by
        simp only [mtB, List.isEmpty_iff] at hm
        simp [hm]
      rw [seg_length zs i j h1 hj] at h0
      obtain rfl : i = j := by omega
      exact hi
  | (s, h) :: t, out, hr, ho, x => by
    have hrx := hr (s, h) (by simp)
    have hstep : ∀ y ∈ uniq (out.flatMap fun x => stepL s h zs x.toNat), 0 ≤ y ∧ y ≤ zs.length := fun y hy => by
      obtain ⟨z, hz, hyz⟩ := List.mem_flatMap.1 ((mem_uniq _ _).1 hy)
      have := ho z hz
      exact mem_stepL hyz (by omega)
    rw [endsL, mem_endsL zs t _ (fun y hy => hr y (List.mem_cons_of_mem _ hy)) hstep x]
    constructor
    · rintro ⟨i, j, hi, rfl, h1, hj, hm⟩
      obtain ⟨z, hz, hyz⟩ := List.mem_flatMap.1 ((mem_uniq _ _).1 hi)
      have hz' := ho z hz
      obtain ⟨a, rfl⟩ := Int.eq_ofNat_of_zero_le hz'.1
      simp only [Int.toNat_natCast] at hyz
      obtain ⟨i', hi', h2, h3, h4⟩ := (mem_stepL_iff s h hrx.1 hrx.2 zs a (by omega) _).1 hyz
      obtain rfl : i = i' := by omega
      exact ⟨a, j, hz, rfl, by omega, hj, (mtB_cons _ _ _ _ _ (by omega) hj).2 ⟨i, h2, h1, h4, hm⟩⟩
    · rintro ⟨a, j, ha, rfl, h1, hj, hm⟩
      obtain ⟨k, h2, h3, h4, h5⟩ := (mtB_cons _ _ _ _ _ h1 hj).1 hm
      refine ⟨k, j, (mem_uniq _ _).2 (List.mem_flatMap.2 ⟨(a : Int), ha, ?_⟩), rfl, h3, hj, h5⟩
      simp only [Int.toNat_natCast]
      exact (mem_stepL_iff s h hrx.1 hrx.2 zs a (by omega) _).2 ⟨k, rfl, h2, by omega, h4⟩
end Go.Vir
