/- What the reference's reach computes: plain laws on lists. -/
import Derived.Test.YtpjhjjkkbbmnjaaGreatDoorPat
namespace Go.Vir

/-- Ahead of place j: what is written there already (out), and the half of pairs. -/
def rchP (F b : Nat → Bool) (h : Int) : Nat → Bool × Bool
  | 0 => (false, false)
  | j + 1 => (b j && (if h = 0 then F j else if h = 1 then ((rchP F b h j).1 || (F j && !(h == 0))) else (rchP F b h j).2), b j && (h == 2 && ((rchP F b h j).1 || (F j && !(h == 0)))))
/-- The places that one item may end at. -/
def rchO (F b : Nat → Bool) (h : Int) (j : Nat) : Bool := (rchP F b h j).1 || (F j && !(h == 0))
/-- The places that items may end at. -/
def reachL (zs : List Int) : List (Int × Int) → (Nat → Bool) → (Nat → Bool)
  | [], F => F
  | x :: xs, F => reachL zs xs (rchO F (fun i => bitB x.1 (zs.getD i 0)) x.2)

def runs (b : Nat → Bool) (a j : Nat) : Prop := ∀ i, a ≤ i → i < j → b i = true

theorem rchP_iff (F b : Nat → Bool) (h : Int) (h0 : 0 ≤ h) (h2 : h ≤ 2) : ∀ j,
    ((rchP F b h j).1 = true ↔ ∃ a, a < j ∧ F a = true ∧ runs b a j ∧ (h = 0 → j - a = 1) ∧ (h = 2 → (j - a) % 2 = 0)) ∧
    ((rchP F b h j).2 = true ↔ h = 2 ∧ ∃ a, a < j ∧ F a = true ∧ runs b a j ∧ (j - a) % 2 = 1)
  | 0 => by simp [rchP]
  | j + 1 => by
    obtain ⟨i1, i2⟩ := rchP_iff F b h h0 h2 j
    have step : ∀ a, a ≤ j → (runs b a (j + 1) ↔ b j = true ∧ runs b a j) := fun a ha => by
      constructor
      · exact fun hr => ⟨hr j ha (by omega), fun i hi hj => hr i hi (by omega)⟩
      · rintro ⟨hb, hr⟩ i hi hj
        rcases Nat.lt_or_ge i j with hl | hl
        · exact hr i hi hl
        · obtain rfl : i = j := by omega
          exact hb
    have hO : ((rchP F b h j).1 || (F j && !(h == 0))) = true ↔ ∃ a, a ≤ j ∧ F a = true ∧ runs b a j ∧ (h = 0 → j - a = 1) ∧ (h = 2 → (j - a) % 2 = 0) := by
      rw [Bool.or_eq_true, i1, Bool.and_eq_true]
      constructor
      · rintro (⟨a, ha, r⟩ | ⟨hf, hn⟩)
        · exact ⟨a, by omega, r⟩
        · refine ⟨j, Nat.le_refl _, hf, fun i hi hj => by omega, fun e => by simp [e] at hn, fun _ => by simp⟩
      · rintro ⟨a, ha, hf, hr, c0, c2⟩
        rcases Nat.lt_or_ge a j with hl | hl
        · exact .inl ⟨a, hl, hf, hr, c0, c2⟩
        · obtain rfl : a = j := by omega
          refine .inr ⟨hf, ?_⟩
          by_cases e : h = 0
          · have := c0 e; omega
          · simpa using e
    constructor
    · simp only [rchP, Bool.and_eq_true]
      obtain rfl | rfl | rfl : h = 0 ∨ h = 1 ∨ h = 2 := by omega
      · rw [if_pos rfl]
        constructor
        · rintro ⟨hb, hf⟩
          exact ⟨j, by omega, hf, (step j (Nat.le_refl _)).2 ⟨hb, fun i hi hj => by omega⟩, fun _ => by omega, fun e => by cases e⟩
        · rintro ⟨a, ha, hf, hr, c0, _⟩
          have := c0 rfl
          obtain rfl : a = j := by omega
          exact ⟨((step a (Nat.le_refl _)).1 hr).1, hf⟩
      · rw [if_neg (show ¬ ((1 : Int) = 0) by decide), if_pos rfl, hO]
        constructor
        · rintro ⟨hb, a, ha, hf, hr, _, _⟩
          exact ⟨a, by omega, hf, (step a ha).2 ⟨hb, hr⟩, (fun e => by cases e), (fun e => by cases e)⟩
        · rintro ⟨a, ha, hf, hr, _, _⟩
          obtain ⟨hb, hr'⟩ := (step a (by omega)).1 hr
          exact ⟨hb, a, by omega, hf, hr', (fun e => by cases e), (fun e => by cases e)⟩
      · rw [if_neg (show ¬ ((2 : Int) = 0) by decide), if_neg (show ¬ ((2 : Int) = 1) by decide), i2]
        constructor
        · rintro ⟨hb, _, a, ha, hf, hr, hp⟩
          exact ⟨a, by omega, hf, (step a (by omega)).2 ⟨hb, hr⟩, (fun e => by cases e), fun _ => by omega⟩
        · rintro ⟨a, ha, hf, hr, _, c2⟩
          have := c2 rfl
          obtain ⟨hb, hr'⟩ := (step a (by omega)).1 hr
          exact ⟨hb, rfl, a, by omega, hf, hr', by omega⟩
    · simp only [rchP, Bool.and_eq_true]
      rw [hO]
      constructor
      · rintro ⟨hb, hh, a, ha, hf, hr, _, c2⟩
        have e2 : h = 2 := by simpa using hh
        have := c2 e2
        exact ⟨e2, a, by omega, hf, (step a ha).2 ⟨hb, hr⟩, by omega⟩
      · rintro ⟨e2, a, ha, hf, hr, hp⟩
        obtain ⟨hb, hr'⟩ := (step a (by omega)).1 hr
        exact ⟨hb, by simpa using e2, a, by omega, hf, hr', (fun e => by omega), fun _ => by omega⟩

theorem rchO_iff (F b : Nat → Bool) (h : Int) (h0 : 0 ≤ h) (h2 : h ≤ 2) (j : Nat) :
    rchO F b h j = true ↔ ∃ a, a ≤ j ∧ F a = true ∧ runs b a j ∧ (h = 0 → j - a = 1) ∧ (h = 2 → (j - a) % 2 = 0) := by
  unfold rchO
  rw [Bool.or_eq_true, (rchP_iff F b h h0 h2 j).1, Bool.and_eq_true]
  constructor
  · rintro (⟨a, ha, r⟩ | ⟨hf, hn⟩)
    · exact ⟨a, by omega, r⟩
    · refine ⟨j, Nat.le_refl _, hf, fun i hi hj => by omega, fun e => by simp [e] at hn, fun _ => by simp⟩
  · rintro ⟨a, ha, hf, hr, c0, c2⟩
    rcases Nat.lt_or_ge a j with hl | hl
    · exact .inl ⟨a, hl, hf, hr, c0, c2⟩
    · obtain rfl : a = j := by omega
      refine .inr ⟨hf, ?_⟩
      by_cases e : h = 0
      · have := c0 e; omega
      · simpa using e

theorem seg_all_runs (s : Int) (zs : List Int) (a j : Nat) (h : a ≤ j) (hj : j ≤ zs.length) : (seg zs a j).all (bitB s) = true ↔ runs (fun i => bitB s (zs.getD i 0)) a j := by
  rw [List.all_eq_true]
  constructor
  · intro hall i hi hij
    refine hall _ ?_
    unfold seg
    rw [List.mem_iff_getElem?]
    refine ⟨i - a, ?_⟩
    rw [List.getElem?_take_of_lt (by omega), List.getElem?_drop, show a + (i - a) = i by omega, List.getElem?_eq_getElem (by omega)]
    simp [List.getD_eq_getElem?_getD, List.getElem?_eq_getElem (show i < zs.length by omega)]
  · intro hr x hx
    unfold seg at hx
    obtain ⟨k, hk⟩ := List.mem_iff_getElem?.1 hx
    have hkl : k < j - a := by
      have := (List.getElem?_eq_some_iff.1 hk).1
      simp at this; omega
    rw [List.getElem?_take_of_lt hkl, List.getElem?_drop] at hk
    have := hr (a + k) (by omega) (by omega)
    simpa [List.getD_eq_getElem?_getD, hk] using this

theorem one_runs (x : Int × Int) (h0 : 0 ≤ x.2) (h2 : x.2 ≤ 2) (zs : List Int) (a j : Nat) (h : a ≤ j) (hj : j ≤ zs.length) :
    oneB x (seg zs a j) = true ↔ runs (fun i => bitB x.1 (zs.getD i 0)) a j ∧ (x.2 = 0 → j - a = 1) ∧ (x.2 = 2 → (j - a) % 2 = 0) := by
  unfold oneB
  rw [Bool.and_eq_true, seg_all_runs x.1 zs a j h hj, seg_length zs a j h hj]
  refine and_congr_right fun _ => ?_
  obtain e | e | e : x.2 = 0 ∨ x.2 = 1 ∨ x.2 = 2 := by omega
  all_goals simp [e]

theorem reachL_iff (zs : List Int) : ∀ (xs : List (Int × Int)) (F : Nat → Bool), (∀ x ∈ xs, 0 ≤ x.2 ∧ x.2 ≤ 2) → ∀ j, j ≤ zs.length →
    (reachL zs xs F j = true ↔ ∃ a, a ≤ j ∧ F a = true ∧ mtB xs (seg zs a j) = true)
  | [], F, _, j, hj => by
    constructor
    · exact fun h => ⟨j, Nat.le_refl _, h, by simp [mtB, seg]⟩
    · rintro ⟨a, ha, hf, hm⟩
      have h0 : (seg zs a j).length = 0 := by
        simp only [mtB, List.isEmpty_iff] at hm
        simp [hm]
      rw [seg_length zs a j ha hj] at h0
      obtain rfl : a = j := by omega
      exact hf
  | x :: xs, F, hr, j, hj => by
    obtain ⟨x0, x2⟩ := hr x (by simp)
    rw [reachL, reachL_iff zs xs _ (fun y hy => hr y (List.mem_cons_of_mem _ hy)) j hj]
    constructor
    · rintro ⟨k, hk, hO, hm⟩
      obtain ⟨a, ha, hf, hc⟩ := (rchO_iff F _ x.2 x0 x2 k).1 hO
      exact ⟨a, by omega, hf, (mtB_cons x xs zs a j (by omega) hj).2 ⟨k, ha, hk, (one_runs x x0 x2 zs a k ha (by omega)).2 hc, hm⟩⟩
    · rintro ⟨a, ha, hf, hm⟩
      obtain ⟨k, h1, h2, h3, h4⟩ := (mtB_cons x xs zs a j ha hj).1 hm
      exact ⟨k, h2, (rchO_iff F _ x.2 x0 x2 k).2 ⟨a, h1, hf, (one_runs x x0 x2 zs a k h1 (by omega)).1 h3⟩, h4⟩

theorem reach_one (zs : List Int) (xs : List (Int × Int)) (hr : ∀ x ∈ xs, 0 ≤ x.2 ∧ x.2 ≤ 2) (at_ j : Nat) (hj : j ≤ zs.length) :
    reachL zs xs (fun i => i == at_) j = (decide (at_ ≤ j) && mtB xs (seg zs at_ j)) := by
  rw [Bool.eq_iff_iff, reachL_iff zs xs _ hr j hj, Bool.and_eq_true, decide_eq_true_eq]
  constructor
  · rintro ⟨a, ha, hf, hm⟩
    obtain rfl : a = at_ := by simpa using hf
    exact ⟨ha, hm⟩
  · exact fun h => ⟨at_, h.1, by simp, h.2⟩
end Go.Vir
