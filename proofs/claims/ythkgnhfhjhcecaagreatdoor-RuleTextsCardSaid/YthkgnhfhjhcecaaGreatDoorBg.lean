/- Joined texts: Bak, Txr, Trl, Rub, Few5, WkX, WkZ, Wf. -/
import Derived.Test.YthkgnhfhjhcecaaGreatDoorBf
import Derived.Test.YthkgnhfhjhcecaaGreatDoorBb
import Derived.Test.YthkgnhfhjhcecaaGreatDoorBd
import Derived.Lib.Strings
import Derived.Deep.RegionHeld3
/- A pattern's text is parsed as it; what is parsed is right: plain laws on texts. -/
namespace Go.Vir
open Go

/-- What classes are together as a set. -/
def sumB : List Int → Int
  | [] => 0
  | c :: cs => 2 ^ c.toNat + sumB cs
theorem sumB_app : ∀ xs ys : List Int, sumB (xs ++ ys) = sumB xs + sumB ys
  | [], ys => by simp [sumB]
  | x :: xs, ys => by simp only [List.cons_append, sumB, sumB_app xs ys]; omega

theorem bitB_nat {a k : Nat} (hr : rightB a 32 = true) (hk : k < 32) : bitB (a : Int) (k : Int) = decide (a / 2 ^ k % 2 = 1) := by
  have h0 : (0 : Int) ≤ (k : Int) := by omega
  have h1 : (k : Int) < 32 := by omega
  have h2 : ((a : Int) / 2 ^ k % 2) = ((a / 2 ^ k % 2 : Nat) : Int) := by simp
  rw [bitB, hr]
  simp only [h0, h1, decide_true, Bool.true_and, Int.toNat_natCast, h2]
  rw [Bool.eq_iff_iff, beq_iff_eq, decide_eq_true_eq]
  omega

theorem sum_bits {a : Nat} (hr : rightB a 32 = true) : ∀ k, k ≤ 32 → sumB (bitsL a k) = ((a % 2 ^ k : Nat) : Int)
  | 0, _ => by simp [bitsL, sumB, Nat.mod_one]
  | k + 1, hk => by
    rw [bitsL_succ, sumB_app, sum_bits hr k (by omega), bitB_nat hr (by omega), Nat.mod_pow_succ]
    rcases Nat.mod_two_eq_zero_or_one (a / 2 ^ k) with h | h
    · simp [h, sumB]
    · simp [h, sumB]

theorem rightB_iff {s n : Int} : rightB s n = true ↔ 1 ≤ n ∧ n ≤ 32 ∧ 0 ≤ s ∧ s < 2 ^ n.toNat := by
  simp [rightB]
theorem rightB_32 {s n : Int} (h : rightB s n = true) : rightB s 32 = true := by
  rw [rightB_iff] at h ⊢
  have hp : (2 : Int) ^ n.toNat ≤ 2 ^ (32 : Int).toNat := by exact_mod_cast Nat.pow_le_pow_right (by decide) (show n.toNat ≤ (32 : Int).toNat by omega)
  omega
theorem sum_right {s n : Int} (h : rightB s n = true) : sumB (bitsL s 32) = s := by
  have h1 := rightB_32 h
  have h2 := rightB_iff.1 h1
  obtain ⟨a, rfl⟩ := Int.eq_ofNat_of_zero_le h2.2.2.1
  have h3 : a < 2 ^ 32 := by have := h2.2.2.2; simp at this; omega
  rw [sum_bits h1 32 (Nat.le_refl _), Nat.mod_eq_of_lt h3]

theorem bitsL_rising (s : Int) (n : Nat) : (bitsL s n).Pairwise (· < ·) := by
  unfold bitsL
  rw [List.pairwise_map]
  exact (List.pairwise_lt_range.filter _).imp (fun h => by omega)
theorem bitsL_range {s : Int} {n : Nat} (h : rightB s n = true) : ∀ c ∈ bitsL s 32, 0 ≤ c ∧ c.toNat < n := fun _ hc => bit_lt h (bitsL_mem hc)

theorem valB_get (ss : List (List UInt8)) : ∀ (i : Nat), ss.Nodup → ∀ c (h : c < ss.length), valB ss[c] ss i = some ((i + c : Nat) : Int) := by
  induction ss with
  | nil => intro i _ c h; simp at h
  | cons s t ih =>
    intro i hn c h
    rw [List.nodup_cons] at hn
    cases c with
    | zero => simp [valB]
    | succ c =>
      have hc : c < t.length := by simpa using h
      have hne : ¬ s = t[c] := fun e => hn.1 (e ▸ List.getElem_mem hc)
      simp only [List.getElem_cons_succ, valB, if_neg hne, ih (i + 1) hn.2 c hc]
      congr 2; omega

theorem bit_small {a : Int} {c : Int} (h0 : 0 ≤ a) (h : a < 2 ^ c.toNat) : bitB a c = false := by
  have : a / 2 ^ c.toNat = 0 := Int.ediv_eq_zero_of_lt h0 h
  simp [bitB, this]

theorem pow_add_le {c d : Int} (h0 : 0 ≤ c) (h : c < d) {a : Int} (ha : a < 2 ^ c.toNat) : a + 2 ^ c.toNat < 2 ^ d.toNat := by
  have h1 : c.toNat + 1 ≤ d.toNat := by omega
  have h2 : (2 : Int) ^ (c.toNat + 1) ≤ 2 ^ d.toNat := by exact_mod_cast Nat.pow_le_pow_right (by decide) h1
  rw [Int.pow_succ] at h2
  omega

theorem addB_sum {ss : List (List UInt8)} (hn : ss.Nodup) : ∀ (cs : List Int) (acc : Int), cs.Pairwise (· < ·) → (∀ c ∈ cs, 0 ≤ c ∧ c.toNat < ss.length) → 0 ≤ acc → (∀ c ∈ cs, acc < 2 ^ c.toNat) →
    addB ss (cs.map fun c => ss.getD c.toNat []) acc = some (acc + sumB cs)
  | [], acc, _, _, _, _ => by simp [addB, sumB]
  | c :: cs, acc, hp, hr, h0, ha => by
    rw [List.pairwise_cons] at hp
    obtain ⟨c0, c1⟩ := hr c (by simp)
    have hv : valB (ss.getD c.toNat []) ss 0 = some c := by
      have h1 : ss.getD c.toNat [] = ss[c.toNat] := by simp [List.getD_eq_getElem?_getD, c1]
      rw [h1, valB_get ss 0 hn c.toNat c1]
      congr 1; omega
    have hb := bit_small h0 (ha c (by simp))
    have hpos : (0 : Int) < 2 ^ c.toNat := by exact_mod_cast Nat.two_pow_pos c.toNat
    simp only [List.map_cons, addB, hv, hb, Bool.false_eq_true, if_false]
    rw [addB_sum hn cs (acc + 2 ^ c.toNat) hp.2 (fun d hd => hr d (List.mem_cons_of_mem _ hd)) (by omega) (fun d hd => pow_add_le c0 (hp.1 d hd) (ha c (by simp)))]
    simp only [sumB]; congr 1; omega

theorem splitL_join (c : UInt8) : ∀ (xs : List (List UInt8)), xs ≠ [] → (∀ x ∈ xs, c ∉ x) → splitL c (Lib.join xs [c]) = xs
  | [], h, _ => absurd rfl h
  | [x], _, h => by rw [Lib.join_one, splitL_miss c x (h x (by simp))]
  | x :: y :: t, _, h => by
    have e : Lib.join (x :: y :: t) [c] = x ++ c :: Lib.join (y :: t) [c] := by
      rw [Lib.join_cons, Lib.join_cons]; simp [Lib.joinTail]
    rw [e, splitL_app c x _ (h x (by simp)), splitL_join c (y :: t) (by simp) (fun z hz => h z (List.mem_cons_of_mem _ hz))]

theorem join_mem (sep : List UInt8) : ∀ (xs : List (List UInt8)) (b : UInt8), b ∈ Lib.join xs sep → b ∈ sep ∨ ∃ x ∈ xs, b ∈ x
  | [], b, h => by simp [Lib.join_nil] at h
  | [x], b, h => by rw [Lib.join_one] at h; exact .inr ⟨x, by simp, h⟩
  | x :: y :: t, b, h => by
    have e : Lib.join (x :: y :: t) sep = x ++ (sep ++ Lib.join (y :: t) sep) := by
      rw [Lib.join_cons, Lib.join_cons]; simp [Lib.joinTail]
    rw [e, List.mem_append, List.mem_append] at h
    rcases h with h | h | h
    · exact .inr ⟨x, by simp, h⟩
    · exact .inl h
    · rcases join_mem sep (y :: t) b h with h | ⟨z, hz, hb⟩
      · exact .inl h
      · exact .inr ⟨z, List.mem_cons_of_mem _ hz, hb⟩
theorem join_ne {sep : List UInt8} {x : List UInt8} {xs : List (List UInt8)} (h : x ≠ []) : Lib.join (x :: xs) sep ≠ [] := by
  rw [Lib.join_cons]; simp [h]

theorem names_all {ss : List (List UInt8)} (h : namesB ss = true) : ∀ x ∈ ss, nameB x = true := by
  simp only [namesB, Bool.and_eq_true, List.all_eq_true] at h
  exact h.2
theorem name_ne {x : List UInt8} (h : nameB x = true) : x ≠ [] := by
  rintro rfl; simp [nameB] at h
theorem name_letters {x : List UInt8} (h : nameB x = true) : ∀ b ∈ x, letterB b = true := by
  simp only [nameB, Bool.and_eq_true, List.all_eq_true] at h
  exact h.1
theorem letter_not {b : UInt8} (h : letterB b = true) : b ≠ 10 ∧ b ≠ 32 ∧ b ≠ 42 ∧ b ≠ 46 ∧ b ≠ 91 ∧ b ≠ 93 ∧ b ≠ 94 ∧ b.toNat < 128 := by
  simp only [letterB, Bool.or_eq_true, Bool.and_eq_true, decide_eq_true_eq, beq_iff_eq] at h
  have e : ∀ k : UInt8, b = k → b.toNat = k.toNat := fun k e => by rw [e]
  refine ⟨?_, ?_, ?_, ?_, ?_, ?_, ?_, by omega⟩ <;> (intro hb; have h2 := e _ hb; simp at h2; omega)

theorem rising_len (n : Nat) : ∀ (l : List Int) (i : Nat), l.Pairwise (· < ·) → (∀ c ∈ l, (i : Int) ≤ c ∧ c < n) → l.length + i ≤ n ∨ l = []
  | [], _, _, _ => .inr rfl
  | c :: cs, i, hp, hr => by
    rw [List.pairwise_cons] at hp
    obtain ⟨c0, c1⟩ := hr c (by simp)
    rcases rising_len n cs (i + 1) hp.2 (fun d hd => by have := hp.1 d hd; have := hr d (List.mem_cons_of_mem _ hd); omega) with h | h
    · left; simp; omega
    · left; simp [h]; omega
theorem rising_sum (n : Nat) : ∀ (l : List Int) (i : Nat), l.Pairwise (· < ·) → (∀ c ∈ l, (i : Int) ≤ c ∧ c < n) → l.length + i = n → sumB l = 2 ^ n - 2 ^ i
  | [], i, _, _, h => by
    have : i = n := by simpa using h
    simp [sumB, this]
  | c :: cs, i, hp, hr, h => by
    rw [List.pairwise_cons] at hp
    obtain ⟨c0, c1⟩ := hr c (by simp)
    simp at h
    have hcs : ∀ d ∈ cs, c + 1 ≤ d ∧ d < n := fun d hd => by have := hp.1 d hd; have := hr d (List.mem_cons_of_mem _ hd); omega
    have hci : c = i := by
      obtain ⟨k, rfl⟩ := Int.eq_ofNat_of_zero_le (show 0 ≤ c by omega)
      rcases rising_len n cs (k + 1) hp.2 (fun d hd => by have := hcs d hd; omega) with h2 | h2
      · omega
      · subst h2; simp at h; omega
    subst hci
    rw [sumB, rising_sum n cs (i + 1) hp.2 (fun d hd => by have := hcs d hd; omega) (by omega)]
    simp only [Int.toNat_natCast, Int.pow_succ]
    omega

section
variable {ss : List (List UInt8)} (hN : namesB ss = true)
include hN

theorem list_names {s : Int} (hr : rightB s ss.length = true) : ∀ x ∈ namesL s ss, nameB x = true := fun x hx => names_all hN x (namesL_mem hr rfl hx)

theorem list_parse {s : Int} (hr : rightB s ss.length = true) : (if listB s ss = [] then some 0 else addB ss (splitL 32 (listB s ss)) 0) = some s := by
  have hsum := sum_right hr
  have hnd := (namesB_nodup hN).1
  have hns := list_names hN hr
  rcases hb : bitsL s 32 with _ | ⟨c, cs⟩
  · have e : listB s ss = [] := by simp [listB, namesL, hb, Lib.join_nil]
    rw [if_pos e]
    rw [hb] at hsum
    simp [sumB] at hsum
    rw [hsum]
  · have e : namesL s ss ≠ [] := by simp [namesL, hb]
    have e2 : listB s ss ≠ [] := by
      unfold listB
      rcases hl : namesL s ss with _ | ⟨x, t⟩
      · exact absurd hl e
      · exact join_ne (name_ne (hns x (by rw [hl]; simp)))
    have e3 : splitL 32 (listB s ss) = namesL s ss := splitL_join 32 _ e (fun x hx hb => (letter_not (name_letters (hns x hx) 32 hb)).2.1 rfl)
    rw [if_neg e2, e3]
    have := addB_sum hnd (bitsL s 32) 0 (bitsL_rising s 32) (bitsL_range hr) (Int.le_refl _) (fun c _ => by exact_mod_cast Nat.two_pow_pos c.toNat)
    rw [hsum, Int.zero_add] at this
    exact this

theorem list_chars {s : Int} (hr : rightB s ss.length = true) {b : UInt8} (h : b ∈ listB s ss) : b = 32 ∨ letterB b = true := by
  rcases join_mem [32] _ b h with h | ⟨x, hx, hb⟩
  · exact .inl (by simpa using h)
  · exact .inr (name_letters (list_names hN hr x hx) b hb)

theorem list_head {s : Int} (hr : rightB s ss.length = true) : Lib.hasPrefix (listB s ss) [94] = false := by
  rcases hl : listB s ss with _ | ⟨b, t⟩
  · rfl
  · have hb : b ≠ 94 := by
      rcases list_chars hN hr (b := b) (by rw [hl]; simp) with rfl | h
      · decide
      · exact (letter_not h).2.2.2.2.2.2.1
    simp [Lib.hasPrefix, List.isPrefixOf, hb.symm]

omit hN in
theorem not_not {s : Int} (hr : rightB s ss.length = true) : notB (notB s ss.length) ss.length = s := by
  have h2 := rightB_not hr
  unfold notB at h2 ⊢
  rw [if_pos hr] at h2 ⊢
  rw [if_pos h2]
  omega

theorem valB_bracket {t : List UInt8} : valB (91 :: t) ss 0 = none := by
  have h := valB_isSome (91 :: t) ss 0
  have : ¬ (91 :: t) ∈ ss := fun hm => by
    have := letter_not (name_letters (names_all hN _ hm) 91 (by simp))
    exact this.2.2.2.2.1 rfl
  rw [decide_eq_false this] at h
  exact Option.not_isSome_iff_eq_none.1 (by rw [h]; simp)

omit hN in
theorem inside_bracket (t : List UInt8) : insideB (91 :: (t ++ [93])) = (t, true) := by
  have h1 : Lib.hasPrefix (91 :: (t ++ [93])) [91] = true := by simp [Lib.hasPrefix, List.isPrefixOf]
  have h2 : Lib.trimPrefix (91 :: (t ++ [93])) [91] = t ++ [93] := by rw [Lib.trimPrefix, if_pos h1]; rfl
  have h3 : Lib.hasSuffix (t ++ [93]) [93] = true := by
    unfold Lib.hasSuffix
    rw [List.isSuffixOf_iff_suffix]; exact List.suffix_append _ _
  unfold insideB
  rw [h1, h2, h3]
  have h4 : Lib.trimSuffix (t ++ [93]) [93] = t := by rw [Lib.trimSuffix, if_pos h3]; simp
  rw [h4]; rfl

omit hN in
theorem bits_full {s : Int} (hr : rightB s ss.length = true) (h : (bitsL s 32).length = ss.length) : s = 2 ^ ss.length - 1 := by
  have hsum := sum_right hr
  have h1 : ∀ c ∈ bitsL s 32, 0 ≤ c ∧ c.toNat < ss.length := bitsL_range hr
  have := rising_sum ss.length (bitsL s 32) 0 (bitsL_rising s 32) (fun c hc => by have := h1 c hc; omega) (by omega)
  rw [hsum] at this
  simpa using this

/-- A set's text is parsed as it. -/
theorem set_back {s : Int} (hr : rightB s ss.length = true) : parseSetB (printB s ss) ss = some s := by
  have hnd := (namesB_nodup hN).1
  unfold printB
  by_cases h1 : (bitsL s 32).length = ss.length
  · rw [if_pos h1, parseSetB, if_pos rfl, ← bits_full hr h1]
  · rw [if_neg h1]
    by_cases h2 : (bitsL s 32).length = 1
    · rw [if_pos h2]
      obtain ⟨c, hc⟩ := List.length_eq_one_iff.1 h2
      have hsum := sum_right hr
      rw [hc] at hsum
      obtain ⟨c0, c1⟩ := bitsL_range hr c (by rw [hc]; simp)
      have hl : listB s ss = ss[c.toNat] := by simp [listB, namesL, hc, Lib.join_one, List.getD_eq_getElem?_getD, c1]
      rw [hl]
      have hne : ¬ ss[c.toNat] = [46] := fun e => by
        have := letter_not (name_letters (names_all hN _ (List.getElem_mem c1)) 46 (by rw [e]; simp))
        exact this.2.2.2.1 rfl
      rw [parseSetB, if_neg hne, valB_get ss 0 hnd c.toNat c1]
      simp only [sumB] at hsum
      simp only [Nat.zero_add, Int.toNat_natCast]
      congr 1
    · rw [if_neg h2]
      by_cases h3 : ss.length < 2 * (bitsL s 32).length
      · rw [if_pos h3]
        have e : [91, 94] ++ (listB (notB s ss.length) ss ++ [93]) = 91 :: (94 :: listB (notB s ss.length) ss ++ [93]) := by simp
        have hr2 := rightB_not hr
        rw [e, parseSetB, if_neg (by simp), valB_bracket hN, inside_bracket]
        have h4 : Lib.hasPrefix (94 :: listB (notB s ss.length) ss) [94] = true := by simp [Lib.hasPrefix, List.isPrefixOf]
        have h5 : Lib.trimPrefix (94 :: listB (notB s ss.length) ss) [94] = listB (notB s ss.length) ss := by rw [Lib.trimPrefix, if_pos h4]; rfl
        simp only [h5, h4, Bool.true_eq_false, if_false, if_true, list_parse hN hr2, Option.map_some, not_not hr]
      · rw [if_neg h3]
        have e : [91] ++ (listB s ss ++ [93]) = 91 :: (listB s ss ++ [93]) := by simp
        rw [e, parseSetB, if_neg (by simp), valB_bracket hN, inside_bracket]
        have h4 := list_head hN hr
        have h5 : Lib.trimPrefix (listB s ss) [94] = listB s ss := by rw [Lib.trimPrefix, h4]; rfl
        simp only [h5, h4, Bool.true_eq_false, Bool.false_eq_true, if_false, list_parse hN hr, Option.map_some]
end

/-- How the marking of a text ends. -/
def stA : Bool → List UInt8 → Bool
  | i, [] => i
  | i, b :: t => stA (mark1 i b.toNat).2 t
theorem marksA_app : ∀ (i : Bool) (a b : List UInt8), marksA i (a ++ b) = marksA i a ++ marksA (stA i a) b ∧ stA i (a ++ b) = stA (stA i a) b
  | i, [], b => ⟨rfl, rfl⟩
  | i, x :: a, b => by
    obtain ⟨h1, h2⟩ := marksA_app (mark1 i x.toNat).2 a b
    simp [marksA, stA, h1, h2]
theorem toNat_back (b : UInt8) : ((b.toNat : Int)).toNat.toUInt8 = b := by simp
theorem byte_ne {b k : UInt8} {z : Int} (hz : z = (k.toNat : Int)) (h : b ≠ k) : ¬ ((b.toNat : Int) = z) := fun e => h (by
  apply UInt8.toNat.inj
  omega)
theorem marks_plain (i : Bool) : ∀ t : List UInt8, (∀ b ∈ t, b ≠ 91 ∧ b ≠ 93 ∧ b ≠ 32) → marksA i t = t ∧ stA i t = i
  | [], _ => ⟨rfl, rfl⟩
  | b :: t, h => by
    obtain ⟨h1, h2, h3⟩ := h b (by simp)
    have e : mark1 i b.toNat = ((b.toNat : Int), i) := by
      unfold mark1
      have q1 : ¬ ((b.toNat : Int) = 91) := byte_ne rfl h1
      have q2 : ¬ ((b.toNat : Int) = 93) := byte_ne rfl h2
      have q3 : ¬ ((b.toNat : Int) = 32) := byte_ne rfl h3
      rw [if_neg q1, if_neg q2, if_neg q3]
    obtain ⟨h4, h5⟩ := marks_plain i t (fun c hc => h c (List.mem_cons_of_mem _ hc))
    simp only [marksA, stA, e, h4, h5, toNat_back, and_self]
theorem marks_in : ∀ t : List UInt8, (∀ b ∈ t, b ≠ 91 ∧ b ≠ 93) → marksA true t = t ∧ stA true t = true
  | [], _ => ⟨rfl, rfl⟩
  | b :: t, h => by
    obtain ⟨h1, h2⟩ := h b (by simp)
    obtain ⟨h4, h5⟩ := marks_in t (fun c hc => h c (List.mem_cons_of_mem _ hc))
    by_cases h3 : b = 32
    · subst h3
      have e : mark1 true ((32 : UInt8).toNat : Int) = (32, true) := by decide
      simp only [marksA, stA, e, h4, h5, and_true]
      rfl
    · have e : mark1 true b.toNat = ((b.toNat : Int), true) := by
        unfold mark1
        have q1 : ¬ ((b.toNat : Int) = 91) := byte_ne rfl h1
        have q2 : ¬ ((b.toNat : Int) = 93) := byte_ne rfl h2
        have q3 : ¬ ((b.toNat : Int) = 32) := byte_ne rfl h3
        rw [if_neg q1, if_neg q2, if_neg q3]
      simp only [marksA, stA, e, h4, h5, toNat_back, and_self]
theorem marks_bracket {t : List UInt8} (h : ∀ b ∈ t, b ≠ 91 ∧ b ≠ 93) : marksA false (91 :: (t ++ [93])) = 91 :: (t ++ [93]) ∧ stA false (91 :: (t ++ [93])) = false := by
  obtain ⟨h1, h2⟩ := marks_in t h
  obtain ⟨h3, h4⟩ := marksA_app true t [93]
  have e : mark1 false ((91 : UInt8).toNat : Int) = (91, true) := by decide
  have e2 : mark1 true ((93 : UInt8).toNat : Int) = (93, false) := by decide
  have h5 : marksA true [93] = [93] := by decide
  have h6 : stA true [93] = false := by decide
  constructor
  · rw [marksA, e, h3, h1, h2, h5]; rfl
  · rw [stA, e, h4, h2, h6]

/-- A text that stands for itself among blanks. -/
def Bal (t : List UInt8) : Prop := marksA false t = t ∧ stA false t = false
theorem marks_join : ∀ xs : List (List UInt8), (∀ x ∈ xs, Bal x) → marksA false (Lib.join xs [32]) = Lib.join xs [10]
  | [], _ => by simp [Lib.join_nil, marksA]
  | [x], h => by rw [Lib.join_one, Lib.join_one]; exact (h x (by simp)).1
  | x :: y :: t, h => by
    have e : ∀ c, Lib.join (x :: y :: t) [c] = x ++ c :: Lib.join (y :: t) [c] := fun c => by
      rw [Lib.join_cons, Lib.join_cons]; simp [Lib.joinTail]
    obtain ⟨h1, h2⟩ := h x (by simp)
    have e2 : mark1 false ((32 : UInt8).toNat : Int) = (10, false) := by decide
    rw [e, e, (marksA_app _ _ _).1, h1, h2, marksA, e2, marks_join (y :: t) (fun z hz => h z (List.mem_cons_of_mem _ hz))]
    rfl

theorem rep_mem (c : UInt8) : ∀ (k : Nat) (b : UInt8), b ∈ Lib.repeatL [c] k → b = c
  | 0, b, h => by simp [Lib.repeatL] at h
  | k + 1, b, h => by
    simp only [Lib.repeatL, List.mem_append, List.mem_singleton] at h
    rcases h with h | h
    · exact h
    · exact rep_mem c k b h
theorem rep_replicate (c : UInt8) : ∀ k, Lib.repeatL [c] k = List.replicate k c
  | 0 => rfl
  | k + 1 => by simp [Lib.repeatL, rep_replicate c k, List.replicate_succ]
theorem trim_stars {t : List UInt8} (k : Nat) (h : t.getLast? ≠ some 42) : Lib.trimRightB (t ++ Lib.repeatL [42] k) 42 = t := by
  unfold Lib.trimRightB
  rw [rep_replicate, List.reverse_append, List.reverse_replicate, List.dropWhile_append_of_pos (by simp)]
  have h2 : t.reverse.dropWhile (fun x => x == 42) = t.reverse := by
    rcases hr : t.reverse with _ | ⟨b, r⟩
    · rfl
    · have : t.getLast? = some b := by rw [← List.head?_reverse, hr]; rfl
      have hb : b ≠ 42 := fun e => h (by rw [this, e])
      simp [hb]
  rw [h2, List.reverse_reverse]

section
variable {ss : List (List UInt8)} (hN : namesB ss = true)
include hN

/-- What is known of a set's text. -/
theorem set_text {s : Int} (hr : rightB s ss.length = true) : Bal (printB s ss) ∧ (printB s ss).getLast? ≠ some 42 ∧ printB s ss ≠ [] ∧ (printB s ss).head? ≠ some 94 ∧ ∀ b ∈ printB s ss, b ≠ 10 ∧ b.toNat < 128 := by
  have hbr : ∀ t : List UInt8, (∀ b ∈ t, b = 94 ∨ b = 32 ∨ letterB b = true) → Bal (91 :: (t ++ [93])) ∧ (91 :: (t ++ [93])).getLast? ≠ some 42 ∧ (91 :: (t ++ [93])) ≠ [] ∧ (91 :: (t ++ [93])).head? ≠ some 94 ∧ ∀ b ∈ 91 :: (t ++ [93]), b ≠ 10 ∧ b.toNat < 128 := fun t ht => by
    have hc : ∀ b ∈ t, (b ≠ 91 ∧ b ≠ 93) ∧ b ≠ 10 ∧ b.toNat < 128 := fun b hb => by
      rcases ht b hb with rfl | rfl | h
      · decide
      · decide
      · have := letter_not h; exact ⟨⟨this.2.2.2.2.1, this.2.2.2.2.2.1⟩, this.1, this.2.2.2.2.2.2.2⟩
    refine ⟨marks_bracket (fun b hb => (hc b hb).1), by rw [show 91 :: (t ++ [93]) = (91 :: t) ++ [93] from rfl, List.getLast?_concat]; decide, by simp, by simp, fun b hb => ?_⟩
    simp only [List.mem_cons, List.mem_append, List.not_mem_nil, or_false] at hb
    rcases hb with rfl | hb | rfl
    · decide
    · exact (hc b hb).2
    · decide
  unfold printB
  by_cases h1 : (bitsL s 32).length = ss.length
  · rw [if_pos h1]
    refine ⟨marks_plain false [46] (by decide), by decide, by decide, by decide, by decide⟩
  · rw [if_neg h1]
    by_cases h2 : (bitsL s 32).length = 1
    · rw [if_pos h2]
      obtain ⟨c, hc⟩ := List.length_eq_one_iff.1 h2
      have hl : listB s ss ∈ namesL s ss := by simp [listB, namesL, hc, Lib.join_one]
      have hn := list_names hN hr _ hl
      have hlet := name_letters hn
      have hne := name_ne hn
      refine ⟨marks_plain false _ fun b hb => ?_, fun e => ?_, hne, fun e => ?_, fun b hb => ?_⟩
      · have := letter_not (hlet b hb); exact ⟨this.2.2.2.2.1, this.2.2.2.2.2.1, this.2.1⟩
      · have := letter_not (hlet 42 (List.mem_of_getLast? e)); exact this.2.2.1 rfl
      · have := letter_not (hlet 94 (List.mem_of_head? e)); exact this.2.2.2.2.2.2.1 rfl
      · have := letter_not (hlet b hb); exact ⟨this.1, this.2.2.2.2.2.2.2⟩
    · rw [if_neg h2]
      by_cases h3 : ss.length < 2 * (bitsL s 32).length
      · rw [if_pos h3]
        have e : [91, 94] ++ (listB (notB s ss.length) ss ++ [93]) = 91 :: (94 :: listB (notB s ss.length) ss ++ [93]) := by simp
        rw [e]
        refine hbr _ fun b hb => ?_
        rw [List.mem_cons] at hb
        rcases hb with h | h
        · exact .inl h
        · exact .inr (list_chars hN (rightB_not hr) h)
      · rw [if_neg h3]
        exact hbr _ fun b hb => .inr (list_chars hN hr hb)

theorem item_back {x : Int × Int} (hx : itemB ss.length x = true) : itemPB (itemT ss x) ss = some x := by
  simp only [itemB, Bool.and_eq_true, decide_eq_true_eq] at hx
  obtain ⟨h0, h2, hr⟩ := hx
  have hp : pcB x.1 ss = (printB x.1 ss, 0) := by rw [pcB, if_pos hN, if_pos hr]
  have hc : cpB (printB x.1 ss) ss = (x.1, 0) := by rw [cpB, if_pos hN, set_back hN hr]
  have ht := trim_stars x.2.toNat (set_text hN hr).2.1
  unfold itemPB itemT
  simp only [hp, ht, hc, List.length_append, Lib.repeatL_length, List.length_singleton, Nat.mul_one, Nat.add_sub_cancel_left, true_and]
  rw [if_pos (by omega)]
  congr 1
  ext
  · rfl
  · simp; omega

theorem item_text {x : Int × Int} (hx : itemB ss.length x = true) : Bal (itemT ss x) ∧ itemT ss x ≠ [] ∧ (itemT ss x).head? ≠ some 94 ∧ ∀ b ∈ itemT ss x, b ≠ 10 ∧ b.toNat < 128 := by
  simp only [itemB, Bool.and_eq_true, decide_eq_true_eq] at hx
  obtain ⟨h0, h2, hr⟩ := hx
  have hp : pcB x.1 ss = (printB x.1 ss, 0) := by rw [pcB, if_pos hN, if_pos hr]
  obtain ⟨t1, t2, t3, t4, t5⟩ := set_text hN hr
  have hs := marks_plain false (Lib.repeatL [42] x.2.toNat) (fun b hb => by rw [rep_mem 42 _ b hb]; decide)
  unfold itemT
  rw [hp]
  refine ⟨⟨?_, ?_⟩, by simp [t3], ?_, fun b hb => ?_⟩
  · rw [(marksA_app _ _ _).1, t1.1, t1.2, hs.1]
  · rw [(marksA_app _ _ _).2, t1.2, hs.2]
  · rcases hq : printB x.1 ss with _ | ⟨c, t⟩
    · exact absurd hq t3
    · rw [hq] at t4; simpa using t4
  · rcases List.mem_append.1 hb with h | h
    · exact t5 b h
    · rw [rep_mem 42 _ b h]; decide

theorem items_back : ∀ (xs acc : List (Int × Int)), (∀ x ∈ xs, itemB ss.length x = true) → acc.length + xs.length ≤ 10 → itemsB ss (xs.map (itemT ss)) acc = some (acc ++ xs)
  | [], acc, _, _ => by simp [itemsB]
  | x :: xs, acc, hx, hl => by
    have h1 : ¬ acc.length = 10 := by simp at hl; omega
    simp only [List.map_cons, itemsB, item_back hN (hx x (by simp)), h1, if_false]
    rw [items_back xs (acc ++ [x]) (fun y hy => hx y (List.mem_cons_of_mem _ hy)) (by simp at hl ⊢; omega)]
    simp

theorem out_text {st : Bool} {xs : List (Int × Int)} (hx : ∀ x ∈ xs, itemB ss.length x = true) : ∀ t ∈ outT st xs ss, Bal t ∧ t ≠ [] ∧ ∀ b ∈ t, b ≠ 10 ∧ b.toNat < 128 := by
  intro t ht
  unfold outT at ht
  rcases List.mem_append.1 ht with h | h
  · cases st
    · simp at h
    · have : t = [94] := by simpa using h
      subst this
      exact ⟨marks_plain false [94] (by decide), by decide, by decide⟩
  · obtain ⟨x, hxm, rfl⟩ := List.mem_map.1 h
    obtain ⟨a, b, _, d⟩ := item_text hN (hx x hxm)
    exact ⟨a, b, d⟩

/-- A pattern's text is parsed as it. -/
theorem pattern_back {st : Bool} {xs : List (Int × Int)} (hp : patB ss.length xs = true) : parsePB (ppB st xs ss).1 ss = ((st, xs), 0) := by
  have hpp : ppB st xs ss = (Lib.join (outT st xs ss) [32], 0) := by rw [ppB, if_pos hN, if_pos hp]
  rw [hpp]
  simp only [patB, Bool.and_eq_true, decide_eq_true_eq, List.all_eq_true] at hp
  obtain ⟨_, _, hlen, hx⟩ := hp
  have hout := out_text hN (st := st) hx
  rcases ho : outT st xs ss with _ | ⟨t0, ts⟩
  · obtain ⟨h1, h2⟩ := List.append_eq_nil_iff.1 ho
    have hst : st = false := by cases st <;> simp at h1 ⊢
    have hxs : xs = [] := by simpa using h2
    subst hst hxs
    simp [Lib.join_nil, parsePB, hN]
  · have hne : Lib.join (t0 :: ts) [32] ≠ [] := join_ne (hout t0 (by rw [ho]; simp)).2.1
    have hbad : (Lib.join (t0 :: ts) [32]).any badB = false := by
      rw [List.any_eq_false]
      intro b hb
      have : b ≠ 10 ∧ b.toNat < 128 := by
        rcases join_mem _ _ _ hb with h | ⟨t, ht, hbt⟩
        · have : b = 32 := by simpa using h
          subst this; decide
        · exact (hout t (by rw [ho]; exact ht)).2.2 b hbt
      have h10 : ¬ b.toNat = 10 := fun e => this.1 (UInt8.toNat.inj e)
      simp [badB, h10, this.2]
    have hparts : partsA (Lib.join (t0 :: ts) [32]) = t0 :: ts := by
      unfold partsA
      rw [marks_join _ (fun t ht => (hout t (by rw [ho]; exact ht)).1)]
      exact splitL_join 10 _ (by simp) (fun t ht hb => ((hout t (by rw [ho]; exact ht)).2.2 10 hb).1 rfl)
    rw [parsePB, if_neg (by rw [hN]; decide), if_neg hne, if_neg (by rw [hbad]; decide), hparts, ← ho]
    cases st with
    | true =>
      have e : outT true xs ss = [94] :: xs.map (itemT ss) := rfl
      rw [e]
      simp [items_back hN xs [] hx (by simpa using hlen)]
    | false =>
      have e : outT false xs ss = xs.map (itemT ss) := rfl
      rw [e]
      have hh : ¬ (xs.map (itemT ss)).head? = some [94] := by
        rcases xs with _ | ⟨x, xs'⟩
        · simp
        · intro h
          have h3 := (item_text hN (hx x (by simp))).2.2.1
          simp at h
          rw [h] at h3; exact h3 rfl
      rw [if_neg hh, items_back hN xs [] hx (by simpa using hlen)]
      rw [decide_eq_false hh]
      rfl

omit hN in
theorem pow_lt_top {n c : Nat} (h : c < n) : ((2 : Int) ^ c) < 2 ^ n := by
  exact_mod_cast Nat.pow_lt_pow_right (by decide) h
omit hN in
theorem add_right' {s : Int} {c : Nat} {n : Nat} (hc : c < n) (hn : n ≤ 32) (hr : rightB s n = true) (hb : bitB s c = false) : rightB (s + 2 ^ c) n = true := by
  have h32 := rightB_32 hr
  obtain ⟨a1, a2, a3, a4⟩ := rightB_iff.1 hr
  obtain ⟨a, rfl⟩ := Int.eq_ofNat_of_zero_le a3
  rw [bitB_nat h32 (by omega), decide_eq_false_iff_not] at hb
  have ha : a < 2 ^ n := by simp at a4; exact_mod_cast a4
  have h1 : a / 2 ^ c % 2 = 0 := by omega
  have h2 : a + 2 ^ c < 2 ^ n := by
    have e : 2 ^ n = 2 ^ c * (2 * 2 ^ (n - c - 1)) := by
      rw [← Nat.pow_succ', ← Nat.pow_add, show c + (n - c - 1 + 1) = n by omega]
    have hq : a / 2 ^ c < 2 * 2 ^ (n - c - 1) := by
      rw [Nat.div_lt_iff_lt_mul (Nat.two_pow_pos c), Nat.mul_comm, ← e]; exact ha
    have hq2 : a / 2 ^ c + 1 < 2 * 2 ^ (n - c - 1) := by omega
    have hd := Nat.div_add_mod a (2 ^ c)
    have hm := Nat.mod_lt a (Nat.two_pow_pos c)
    have h3 : 2 ^ c * (a / 2 ^ c + 2) ≤ 2 ^ c * (2 * 2 ^ (n - c - 1)) := Nat.mul_le_mul_left _ (by omega)
    rw [← e, Nat.mul_add] at h3
    omega
  rw [rightB_iff]
  refine ⟨a1, a2, by have := Int.natCast_nonneg (2 ^ c); simp at this; omega, ?_⟩
  have : ((a + 2 ^ c : Nat) : Int) < ((2 ^ n : Nat) : Int) := by exact_mod_cast h2
  simpa using this

omit hN in
theorem addB_right (hn : ss.length ≤ 32) : ∀ (ts : List (List UInt8)) (acc r : Int), rightB acc ss.length = true → addB ss ts acc = some r → rightB r ss.length = true
  | [], acc, r, h, e => by simp [addB] at e; rw [← e]; exact h
  | t :: ts, acc, r, h, e => by
    unfold addB at e
    split at e
    · cases e
    · rename_i c hc
      split at e
      · cases e
      · rename_i hb
        obtain ⟨j, h1, h2⟩ := valB_range t ss 0 c hc
        have hcj : c = (j : Int) := by omega
        subst hcj
        exact addB_right hn ts _ r (by simp only [Int.toNat_natCast]; exact add_right' h2 hn h (by simpa using hb)) e

theorem parseSet_right {s : List UInt8} {r : Int} (h : parseSetB s ss = some r) : rightB r ss.length = true := by
  obtain ⟨hnd, h1, h32⟩ := namesB_nodup hN
  have hpos : ∀ k : Nat, (0 : Int) < 2 ^ k := fun k => by exact_mod_cast Nat.two_pow_pos k
  have hz : rightB 0 ss.length = true := rightB_iff.2 ⟨by omega, by omega, Int.le_refl _, by simpa using hpos ss.length⟩
  unfold parseSetB at h
  split at h
  · obtain rfl := Option.some.inj h
    have := hpos ss.length
    exact rightB_iff.2 ⟨by omega, by omega, by omega, by simp only [Int.toNat_natCast]; omega⟩
  · split at h
    · rename_i c hc
      obtain rfl := Option.some.inj h
      obtain ⟨j, e1, e2⟩ := valB_range s ss 0 c hc
      have hcj : c.toNat = j := by omega
      rw [hcj]
      have := hpos j
      exact rightB_iff.2 ⟨by omega, by omega, by omega, by simp only [Int.toNat_natCast]; exact pow_lt_top e2⟩
    · split at h
      · cases h
      · obtain ⟨x, hx, rfl⟩ := Option.map_eq_some_iff.1 h
        have hxr : rightB x ss.length = true := by
          split at hx
          · obtain rfl := Option.some.inj hx; exact hz
          · exact addB_right h32 _ 0 x hz hx
        split
        · exact rightB_not hxr
        · exact hxr

theorem item_right {t : List UInt8} {x : Int × Int} (h : itemPB t ss = some x) : itemB ss.length x = true := by
  unfold itemPB at h
  split at h
  · rename_i hc
    obtain rfl := Option.some.inj h
    have hr : rightB (cpB (Lib.trimRightB t 42) ss).1 ss.length = true := by
      have h1 := hc.1
      unfold cpB at h1 ⊢
      rw [if_pos hN] at h1 ⊢
      rcases hp : parseSetB (Lib.trimRightB t 42) ss with _ | r
      · rw [hp] at h1; simp at h1
      · exact parseSet_right hN hp
    simp only [itemB, hr, Bool.and_true, Bool.and_eq_true, decide_eq_true_eq]
    omega
  · cases h

theorem items_right : ∀ (ts : List (List UInt8)) (acc xs : List (Int × Int)), (∀ x ∈ acc, itemB ss.length x = true) → itemsB ss ts acc = some xs → ∀ x ∈ xs, itemB ss.length x = true
  | [], acc, xs, h, e => by simp [itemsB] at e; rw [← e]; exact h
  | t :: ts, acc, xs, h, e => by
    unfold itemsB at e
    split at e
    · cases e
    · rename_i x hx
      split at e
      · cases e
      · refine items_right ts (acc ++ [x]) xs (fun y hy => ?_) e
        rcases List.mem_append.1 hy with h1 | h1
        · exact h y h1
        · have : y = x := by simpa using h1
          rw [this]; exact item_right hN hx

/-- What is parsed is right. -/
theorem pattern_right {s : List UInt8} (h : (parsePB s ss).2 = 0) : patB ss.length (parsePB s ss).1.2 = true := by
  obtain ⟨hnd, h1, h32⟩ := namesB_nodup hN
  unfold parsePB at h ⊢
  rw [if_neg (by rw [hN]; decide)] at h ⊢
  have base : patB ss.length [] = true := by simp [patB]; omega
  by_cases h2 : s = []
  · rw [if_pos h2]; exact base
  · rw [if_neg h2] at h ⊢
    by_cases h3 : s.any badB = true
    · rw [if_pos h3] at h; simp at h
    · rw [if_neg h3] at h ⊢
      rcases hi : itemsB ss (if (partsA s).head? = some [94] then (partsA s).tail else partsA s) [] with _ | xs
      · rw [hi] at h; simp at h
      · have a := items_le _ _ _ (by simp) hi
        have b := items_right hN _ _ _ (fun x hx => by simp at hx) hi
        simp only [patB, Bool.and_eq_true, decide_eq_true_eq, List.all_eq_true]
        exact ⟨by omega, by omega, a, b⟩
end
end Go.Vir

/- The reference's way to a text's pattern is the program's: plain laws on texts. -/
namespace Go.Vir
open Go

/-- The parts of a text, by the blanks that stand in no brackets: as the reference takes them. -/
def partsR : Bool → List UInt8 → List (List UInt8)
  | _, [] => [[]]
  | i, b :: t => if b = 32 ∧ i = false then [] :: partsR i t else match partsR (b == 91 || (i && b != 93)) t with
    | [] => [[b]]
    | h :: r => (b :: h) :: r
theorem partsR_ne (i : Bool) (s : List UInt8) : partsR i s ≠ [] := by
  cases s with
  | nil => simp [partsR]
  | cons b t =>
    unfold partsR
    split
    · simp
    · split <;> simp

theorem mark_same (i : Bool) {b : UInt8} (h : b ≠ 10) : (b = 32 ∧ i = false ∧ (mark1 i b.toNat).1.toNat.toUInt8 = 10 ∧ (mark1 i b.toNat).2 = false) ∨
    (¬ (b = 32 ∧ i = false) ∧ (mark1 i b.toNat).1.toNat.toUInt8 = b ∧ (mark1 i b.toNat).2 = (b == 91 || (i && b != 93))) := by
  by_cases h1 : b = 91
  · subst h1; right; cases i <;> decide
  · by_cases h2 : b = 93
    · subst h2; right; cases i <;> decide
    · by_cases h3 : b = 32
      · subst h3
        cases i
        · left; decide
        · right; decide
      · right
        have q1 : ¬ ((b.toNat : Int) = 91) := byte_ne rfl h1
        have q2 : ¬ ((b.toNat : Int) = 93) := byte_ne rfl h2
        have q3 : ¬ ((b.toNat : Int) = 32) := byte_ne rfl h3
        refine ⟨fun h => h3 h.1, ?_, ?_⟩
        · unfold mark1; rw [if_neg q1, if_neg q2, if_neg q3]; simp
        · unfold mark1; rw [if_neg q1, if_neg q2, if_neg q3]
          have a1 : (b == 91) = false := by simpa using h1
          have a2 : (b != 93) = true := by simpa using h2
          rw [a1, a2]; cases i <;> rfl

theorem partsR_marks : ∀ (s : List UInt8) (i : Bool), 10 ∉ s → partsR i s = splitL 10 (marksA i s)
  | [], i, _ => rfl
  | b :: t, i, h => by
    simp only [List.mem_cons, not_or] at h
    rcases mark_same i (b := b) (Ne.symm h.1) with ⟨h1, h2, h3, h4⟩ | ⟨h1, h3, h4⟩
    · rw [partsR, if_pos ⟨h1, h2⟩, marksA, h3, h4, splitL, if_pos rfl, partsR_marks t i h.2, h2]
    · rw [partsR, if_neg h1, marksA, h3, h4, splitL, if_neg (Ne.symm h.1), partsR_marks t _ h.2]
      rfl
theorem parts_same {s : List UInt8} (h : 10 ∉ s) : partsR false s = partsA s := partsR_marks s false h

theorem parts_keep : ∀ (s : List UInt8) (i : Bool) (b : UInt8), b ∈ s → b ≠ 32 → ∃ t ∈ partsR i s, b ∈ t
  | [], _, _, h, _ => by cases h
  | c :: t, i, b, h, hb => by
    unfold partsR
    split
    · rename_i hc
      rcases List.mem_cons.1 h with e | e
      · exact absurd (e.trans hc.1) hb
      · obtain ⟨x, hx, hbx⟩ := parts_keep t i b e hb
        exact ⟨x, List.mem_cons_of_mem _ hx, hbx⟩
    · rcases hp : partsR (c == 91 || (i && c != 93)) t with _ | ⟨x, r⟩
      · exact absurd hp (partsR_ne _ _)
      · rcases List.mem_cons.1 h with e | e
        · exact ⟨c :: x, by simp, by simp [e]⟩
        · obtain ⟨y, hy, hby⟩ := parts_keep t (c == 91 || (i && c != 93)) b e hb
          rw [hp] at hy
          rcases List.mem_cons.1 hy with e2 | e2
          · exact ⟨c :: x, by simp, by rw [← e2]; exact List.mem_cons_of_mem _ hby⟩
          · exact ⟨y, List.mem_cons_of_mem _ e2, hby⟩

theorem bad_not {b : UInt8} (h : badB b = true) : letterB b = false ∧ b ≠ 32 ∧ b ≠ 42 ∧ b ≠ 46 ∧ b ≠ 91 ∧ b ≠ 93 ∧ b ≠ 94 := by
  have h1 : b.toNat = 10 ∨ 128 ≤ b.toNat := by simpa [badB] using h
  refine ⟨?_, ?_, ?_, ?_, ?_, ?_, ?_⟩
  · rcases hl : letterB b with _ | _
    · rfl
    · have h3 := letter_not hl
      rcases h1 with h1 | h1
      · exact absurd (UInt8.toNat.inj h1) h3.1
      · have := h3.2.2.2.2.2.2.2; omega
  all_goals rintro rfl; revert h1; decide

section
variable {ss : List (List UInt8)} (hN : namesB ss = true)
include hN

theorem valB_none {t : List UInt8} {b : UInt8} (hb : b ∈ t) (hl : letterB b = false) : valB t ss 0 = none := by
  have h := valB_isSome t ss 0
  have : ¬ t ∈ ss := fun hm => by
    have := name_letters (names_all hN _ hm) b hb
    rw [this] at hl; cases hl
  rw [decide_eq_false this] at h
  exact Option.not_isSome_iff_eq_none.1 (by rw [h]; simp)

omit hN in
theorem addB_none : ∀ (ts : List (List UInt8)) (acc : Int), (∃ t ∈ ts, valB t ss 0 = none) → addB ss ts acc = none
  | [], _, h => by obtain ⟨t, ht, _⟩ := h; cases ht
  | t :: ts, acc, h => by
    unfold addB
    rcases hv : valB t ss 0 with _ | c
    · rfl
    · simp only
      split
      · rfl
      · refine addB_none ts _ ?_
        obtain ⟨u, hu, hn⟩ := h
        rcases List.mem_cons.1 hu with e | e
        · rw [e, hv] at hn; cases hn
        · exact ⟨u, e, hn⟩

omit hN in
theorem split_keep (c : UInt8) : ∀ (l : List UInt8) (b : UInt8), b ∈ l → b ≠ c → ∃ t ∈ splitL c l, b ∈ t
  | [], _, h, _ => by cases h
  | x :: t, b, h, hb => by
    unfold splitL
    split
    · rename_i hc
      rcases List.mem_cons.1 h with e | e
      · exact absurd (e.trans hc) hb
      · obtain ⟨y, hy, hby⟩ := split_keep c t b e hb
        exact ⟨y, List.mem_cons_of_mem _ hy, hby⟩
    · rcases hp : splitL c t with _ | ⟨y, r⟩
      · exact absurd hp (splitL_ne _ _)
      · rcases List.mem_cons.1 h with e | e
        · exact ⟨x :: y, by simp, by simp [e]⟩
        · obtain ⟨z, hz, hbz⟩ := split_keep c t b e hb
          rw [hp] at hz
          rcases List.mem_cons.1 hz with e2 | e2
          · exact ⟨x :: y, by simp, by rw [← e2]; exact List.mem_cons_of_mem _ hbz⟩
          · exact ⟨z, List.mem_cons_of_mem _ e2, hbz⟩

omit hN in
theorem trimPrefix_keep {s : List UInt8} {p b : UInt8} (h : b ∈ s) (hb : b ≠ p) : b ∈ Lib.trimPrefix s [p] := by
  unfold Lib.trimPrefix
  split
  · rename_i hp
    cases s with
    | nil => cases h
    | cons x t =>
      have hx : p = x := by simpa [Lib.hasPrefix, List.isPrefixOf] using hp
      rcases List.mem_cons.1 h with e | e
      · exact absurd (e.trans hx.symm) hb
      · exact e
  · exact h
omit hN in
theorem trimSuffix_keep {s : List UInt8} {p b : UInt8} (h : b ∈ s) (hb : b ≠ p) : b ∈ Lib.trimSuffix s [p] := by
  unfold Lib.trimSuffix
  split
  · rename_i hp
    unfold Lib.hasSuffix at hp
    rw [List.isSuffixOf_iff_suffix] at hp
    obtain ⟨t, rfl⟩ := hp
    rcases List.mem_append.1 h with e | e
    · simpa using e
    · exact absurd (by simpa using e) hb
  · exact h

/-- A text with a sign that stands in no text of a set is none. -/
theorem parseSet_bad {t : List UInt8} {b : UInt8} (hb : b ∈ t) (hbad : badB b = true) : parseSetB t ss = none := by
  obtain ⟨hl, h32, _, h46, h91, h93, h94⟩ := bad_not hbad
  have hne : ¬ t = [46] := fun e => by rw [e] at hb; exact h46 (by simpa using hb)
  rw [parseSetB, if_neg hne, valB_none hN hb hl]
  simp only
  split
  · rfl
  · have h1 : b ∈ (insideB t).1 := trimSuffix_keep (trimPrefix_keep hb h91) h93
    have h2 := trimPrefix_keep h1 h94
    have h3 : ¬ Lib.trimPrefix (insideB t).1 [94] = [] := fun e => by rw [e] at h2; cases h2
    obtain ⟨u, hu, hbu⟩ := split_keep 32 _ b h2 h32
    rw [if_neg h3, addB_none _ 0 ⟨u, hu, valB_none hN hbu hl⟩]
    rfl
omit hN in
theorem trimRight_keep {s : List UInt8} {b : UInt8} (h : b ∈ s) (hb : b ≠ 42) : b ∈ Lib.trimRightB s 42 := by
  unfold Lib.trimRightB
  rw [List.mem_reverse]
  have : ∀ l : List UInt8, b ∈ l → b ∈ l.dropWhile (fun x => x == 42) := fun l => by
    induction l with
    | nil => exact id
    | cons x t ih =>
      intro hm
      rw [List.dropWhile_cons]
      split
      · rename_i hx
        rcases List.mem_cons.1 hm with e | e
        · exact absurd (e.trans (by simpa using hx)) hb
        · exact ih e
      · exact hm
  exact this _ (List.mem_reverse.2 h)
theorem item_bad {t : List UInt8} {b : UInt8} (hb : b ∈ t) (hbad : badB b = true) : itemPB t ss = none := by
  have h1 := parseSet_bad hN (trimRight_keep hb (bad_not hbad).2.2.1) hbad
  unfold itemPB
  rw [if_neg]
  rintro ⟨h2, _⟩
  rw [cpB, if_pos hN, h1] at h2
  simp at h2
omit hN in
theorem items_bad : ∀ (ts : List (List UInt8)) (acc : List (Int × Int)), (∃ t ∈ ts, itemPB t ss = none) → itemsB ss ts acc = none
  | [], _, h => by obtain ⟨t, ht, _⟩ := h; cases ht
  | t :: ts, acc, h => by
    unfold itemsB
    rcases hv : itemPB t ss with _ | x
    · rfl
    · simp only
      split
      · rfl
      · refine items_bad ts _ ?_
        obtain ⟨u, hu, hn⟩ := h
        rcases List.mem_cons.1 hu with e | e
        · rw [e, hv] at hn; cases hn
        · exact ⟨u, e, hn⟩

/-- The reference's way to a text's pattern. -/
theorem parse_R {s : List UInt8} (hs : s ≠ []) : parsePB s ss = match itemsB ss (if (partsR false s).head? = some [94] then (partsR false s).tail else partsR false s) [] with
    | some xs => ((decide ((partsR false s).head? = some [94]), xs), 0)
    | none => ((false, []), 80) := by
  rw [parsePB, if_neg (by rw [hN]; decide), if_neg hs]
  by_cases hb : s.any badB = true
  · rw [if_pos hb]
    obtain ⟨b, hbm, hbad⟩ := List.any_eq_true.1 hb
    obtain ⟨t, ht, hbt⟩ := parts_keep s false b hbm (bad_not hbad).2.1
    rw [items_bad _ [] ⟨t, ?_, item_bad hN hbt hbad⟩]
    split
    · rename_i hh
      rcases hp : partsR false s with _ | ⟨x, r⟩
      · exact absurd hp (partsR_ne _ _)
      · rw [hp] at ht hh
        have hx : x = [94] := by simpa using hh
        rcases List.mem_cons.1 ht with e | e
        · rw [e, hx] at hbt
          exact absurd (by simpa using hbt) (bad_not hbad).2.2.2.2.2.2
        · exact e
    · exact ht
  · rw [if_neg hb]
    have h10 : 10 ∉ s := fun h => hb (List.any_eq_true.2 ⟨10, h, by decide⟩)
    rw [parts_same h10]
    rfl

/-- Up to two stars, taken off a text's end. -/
def starR (s : List UInt8) : Nat → List UInt8 × Nat
  | 0 => (s, 0)
  | k + 1 => if s.getLast? = some 42 then ((starR s.dropLast k).1, (starR s.dropLast k).2 + 1) else (s, 0)

omit hN in
theorem star_app (t : List UInt8) (ht : t.getLast? ≠ some 42) : ∀ (k m : Nat), starR (t ++ List.replicate m 42) k = (t ++ List.replicate (m - k) 42, min m k)
  | 0, m => by simp [starR]
  | k + 1, 0 => by simp [starR, ht]
  | k + 1, m + 1 => by
    have h1 : (t ++ List.replicate (m + 1) 42).getLast? = some 42 := by
      rw [List.replicate_succ', ← List.append_assoc, List.getLast?_concat]
    have h2 : (t ++ List.replicate (m + 1) (42 : UInt8)).dropLast = t ++ List.replicate m 42 := by
      rw [List.replicate_succ', ← List.append_assoc, List.dropLast_concat]
    rw [starR, if_pos h1, h2, star_app t ht k m]
    simp only [Nat.add_sub_add_right, Nat.add_min_add_right]

omit hN in
theorem trim_form (s : List UInt8) : ∃ m, s = Lib.trimRightB s 42 ++ List.replicate m 42 ∧ (Lib.trimRightB s 42).getLast? ≠ some 42 := by
  have key : ∀ l : List UInt8, ∃ m, l = List.replicate m 42 ++ l.dropWhile (fun x => x == 42) ∧ (l.dropWhile (fun x => x == 42)).head? ≠ some 42 := fun l => by
    induction l with
    | nil => exact ⟨0, rfl, by simp⟩
    | cons x t ih =>
      by_cases hx : x = 42
      · subst hx
        obtain ⟨m, h1, h2⟩ := ih
        refine ⟨m + 1, ?_, ?_⟩
        · simp only [List.dropWhile_cons, beq_self_eq_true, if_true, List.replicate_succ, List.cons_append]
          rw [← h1]
        · simpa [List.dropWhile_cons] using h2
      · exact ⟨0, by simp [hx], by simp [hx]⟩
  obtain ⟨m, h1, h2⟩ := key s.reverse
  refine ⟨m, ?_, ?_⟩
  · unfold Lib.trimRightB
    have := congrArg List.reverse h1
    rw [List.reverse_reverse, List.reverse_append, List.reverse_replicate] at this
    exact this
  · unfold Lib.trimRightB
    rw [List.getLast?_reverse]
    exact h2

theorem parseSet_star {t : List UInt8} (h : t.getLast? = some 42) : parseSetB t ss = none := by
  have hm : (42 : UInt8) ∈ t := List.mem_of_getLast? h
  have hne : ¬ t = [46] := fun e => by rw [e] at h; simp at h
  rw [parseSetB, if_neg hne, valB_none hN hm (by decide)]
  simp only
  have hs : ∀ u : List UInt8, u.getLast? ≠ some 93 → Lib.hasSuffix u [93] = false := fun u hu => by
    rw [← Bool.not_eq_true]
    intro hh
    unfold Lib.hasSuffix at hh
    rw [List.isSuffixOf_iff_suffix] at hh
    obtain ⟨v, rfl⟩ := hh
    exact hu (by simp)
  have h2 : (insideB t).2 = false := by
    unfold insideB
    simp only
    rw [hs, Bool.and_false]
    unfold Lib.trimPrefix
    split
    · cases t with
      | nil => simp
      | cons x r =>
        cases r with
        | nil => simp
        | cons y q => 
          have : (y :: q).getLast? = some 42 := by simpa [List.getLast?_cons_cons] using h
          show (y :: q).getLast? ≠ some 93
          rw [this]; decide
    · rw [h]; decide
  rw [if_pos h2]

/-- The reference's way to a part's item. -/
theorem item_R (s : List UInt8) : itemPB s ss = if (cpB (starR s 2).1 ss).2 = 0 then some ((cpB (starR s 2).1 ss).1, ((starR s 2).2 : Int)) else none := by
  obtain ⟨m, h1, h2⟩ := trim_form s
  have hst := star_app (Lib.trimRightB s 42) h2 2 m
  rw [← h1] at hst
  have hlen : s.length - (Lib.trimRightB s 42).length = m := by
    have := congrArg List.length h1
    simp at this; omega
  rw [itemPB, hst, hlen]
  simp only
  rcases Nat.lt_or_ge 2 m with hm | hm
  · have hg : (Lib.trimRightB s 42 ++ List.replicate (m - 2) 42).getLast? = some 42 := by
      rw [show m - 2 = (m - 3) + 1 by omega, List.replicate_succ', ← List.append_assoc, List.getLast?_concat]
    have hc : (cpB (Lib.trimRightB s 42 ++ List.replicate (m - 2) 42) ss).2 ≠ 0 := by
      rw [cpB, if_pos hN, parseSet_star hN hg]; decide
    rw [if_neg (fun h => by omega), if_neg hc]
  · have e : m - 2 = 0 := by omega
    have e2 : min m 2 = m := by omega
    rw [e, e2, List.replicate_zero, List.append_nil]
    by_cases hc : (cpB (Lib.trimRightB s 42) ss).2 = 0
    · rw [if_pos ⟨hc, hm⟩, if_pos hc]
    · rw [if_neg (fun h => hc h.1), if_neg hc]
end

/-- Between brackets: the reference's tests. -/
theorem inside_R (s : List UInt8) : (insideB s).2 = (decide (2 ≤ s.length) && (decide (s.head? = some 91) && decide (s.getLast? = some 93))) ∧
    ((insideB s).2 = true → (insideB s).1 = (s.drop 1).take (s.length - 2)) := by
  have hsuf : ∀ u : List UInt8, Lib.hasSuffix u [93] = decide (u.getLast? = some 93) := fun u => by
    rw [Bool.eq_iff_iff, decide_eq_true_eq]
    unfold Lib.hasSuffix
    rw [List.isSuffixOf_iff_suffix]
    constructor
    · rintro ⟨v, rfl⟩; simp
    · intro h
      obtain ⟨v, rfl⟩ := List.getLast?_eq_some_iff.1 h
      exact List.suffix_append _ _
  cases s with
  | nil => exact ⟨by decide, by decide⟩
  | cons x t =>
    by_cases hx : x = 91
    · subst hx
      have h1 : Lib.hasPrefix (91 :: t) [91] = true := by simp [Lib.hasPrefix, List.isPrefixOf]
      have h2 : Lib.trimPrefix (91 :: t) [91] = t := by rw [Lib.trimPrefix, if_pos h1]; rfl
      unfold insideB
      rw [h1, h2, hsuf]
      cases t with
      | nil => exact ⟨by decide, by decide⟩
      | cons y q =>
        have h3 : (91 :: y :: q).getLast? = (y :: q).getLast? := by simp [List.getLast?_cons_cons]
        rw [h3]
        refine ⟨by simp, fun h => ?_⟩
        simp only [Bool.true_and] at h
        rw [Lib.trimSuffix, hsuf, if_pos h]
        simp
    · have h1 : Lib.hasPrefix (x :: t) [91] = false := by simp [Lib.hasPrefix, List.isPrefixOf, Ne.symm hx]
      unfold insideB
      rw [h1]
      simp [hx]
theorem prefix_R (s : List UInt8) (c : UInt8) : Lib.hasPrefix s [c] = decide (s.head? = some c) ∧ Lib.trimPrefix s [c] = if s.head? = some c then s.drop 1 else s := by
  cases s with
  | nil => simp [Lib.hasPrefix, Lib.trimPrefix, List.isPrefixOf]
  | cons x t =>
    by_cases hx : x = c
    · subst hx; simp [Lib.hasPrefix, Lib.trimPrefix, List.isPrefixOf]
    · have : (c == x) = false := by simpa using Ne.symm hx
      simp [Lib.hasPrefix, Lib.trimPrefix, List.isPrefixOf, hx, this]

theorem join_snoc (sep : List UInt8) (xs : List (List UInt8)) (y : List UInt8) : Lib.join (xs ++ [y]) sep = if xs = [] then y else Lib.join xs sep ++ (sep ++ y) := by
  cases xs with
  | nil => simp [Lib.join_one]
  | cons x t =>
    rw [List.cons_append, Lib.join_cons, Lib.join_cons, if_neg (by simp)]
    simp [Lib.joinTail]
end Go.Vir

/- A line without what counts for nothing, and without blanks: plain laws on texts. No program. -/
namespace Go.Vir
open Go Go.Lib
/-- A line, up to where what counts for nothing begins. -/
def hashL (t : List UInt8) : List UInt8 := t.takeWhile fun b => b != 35
def blankB (b : UInt8) : Bool := ([32, 9, 13] : List UInt8).contains b
def trimL (t : List UInt8) : List UInt8 := (t.reverse.dropWhile blankB).reverse.dropWhile blankB
theorem hash_all : ∀ t : List UInt8, (∀ b ∈ t, b ≠ 35) → hashL t = t
  | [], _ => rfl
  | b :: t, h => by
    have h1 : (b != 35) = true := by simpa using h b (by simp)
    have h2 := hash_all t (fun c hc => h c (List.mem_cons_of_mem _ hc))
    unfold hashL at h2 ⊢
    rw [List.takeWhile_cons, h1, if_pos rfl, h2]
theorem cut_hash (t : List UInt8) : (Lib.cut t [35]).1 = hashL t := by
  have key : ∀ (l r : List UInt8), 35 ∉ l → hashL (l ++ 35 :: r) = l := by
    intro l
    induction l with
    | nil => intro r _; rfl
    | cons b l ih =>
      intro r h
      have h1 : (b != 35) = true := by simp at h ⊢; exact fun e => h.1 e.symm
      have h2 := ih r (fun hm => h (List.mem_cons_of_mem _ hm))
      unfold hashL at h2 ⊢
      rw [List.cons_append, List.takeWhile_cons, h1, if_pos rfl, h2]
  unfold Lib.cut
  rcases index_one 35 t with ⟨h, hn⟩ | ⟨i, h, _, hn, he⟩
  · rw [h, if_neg (by omega)]
    exact (hash_all t (fun b hb e => hn (e ▸ hb))).symm
  · rw [h, if_pos (by omega)]
    show t.take (i : Int).toNat = _
    rw [Int.toNat_natCast]
    conv => rhs; rw [he]
    exact (key _ _ hn).symm
theorem hash_len (t : List UInt8) : (hashL t).length ≤ t.length := (List.takeWhile_sublist _).length_le


theorem trimL_len (t : List UInt8) : (trimL t).length ≤ t.length := by
  unfold trimL
  have h1 := (List.dropWhile_sublist blankB (l := (t.reverse.dropWhile blankB).reverse)).length_le
  have h2 := (List.dropWhile_sublist blankB (l := t.reverse)).length_le
  simp at h1 h2 ⊢
  omega
end Go.Vir

/- Rules' text is parsed as they are; what is parsed is right: plain laws on texts. -/
namespace Go.Vir
open Go
/-- A line, parted at its first mark. -/
def markI : List UInt8 → Option (List UInt8 × UInt8 × List UInt8)
  | [] => none
  | b :: t => if b = 43 ∨ b = 47 then some ([], b, t) else (markI t).map fun r => (b :: r.1, r.2)
/-- P11.2: the rule of a line. -/
def ruleP (s : List UInt8) (ss : List (List UInt8)) : Option RuleV := match markI s with
  | none => none
  | some (l, m, r) =>
    if (parsePB (trimL l) ss).2 = 0 ∧ (parsePB (trimL r) ss).2 = 0 ∧ (parsePB (trimL r) ss).1.1 = false then
      some { sl := (parsePB (trimL l) ss).1.1, xl := (parsePB (trimL l) ss).1.2, sr := (parsePB (trimL r) ss).1.1, xr := (parsePB (trimL r) ss).1.2, br := m == 47 } else none
/-- P11.2: the rules of lines, from the k-th on. -/
def linesP (ss : List (List UInt8)) : List (List UInt8) → Nat → List RuleV → List RuleV × Int × Int
  | [], _, acc => (acc, 0, 0)
  | t :: ts, k, acc => if trimL (hashL t) = [] then linesP ss ts (k + 1) acc else match ruleP (trimL (hashL t)) ss with
    | none => ([], (k : Int) + 1, 90)
    | some x => if acc.length = 40 then ([], (k : Int) + 1, 24) else linesP ss ts (k + 1) (acc ++ [x])
def rparB (s : List UInt8) (ss : List (List UInt8)) : List RuleV × Int × Int := if namesB ss then linesP ss (splitL 10 s) 0 [] else ([], 0, 2)

/-- A rule's text, in parts. -/
def rulePs (x : RuleV) (ss : List (List UInt8)) : List (List UInt8) :=
  (if (ppB x.sl x.xl ss).1 = [] then [] else [(ppB x.sl x.xl ss).1]) ++ ([if x.br then 47 else 43] :: (if (ppB x.sr x.xr ss).1 = [] then [] else [(ppB x.sr x.xr ss).1]))
def ruleT (x : RuleV) (ss : List (List UInt8)) : List UInt8 := Lib.join (rulePs x ss) [32]
def rulesT (rs : List RuleV) (ss : List (List UInt8)) : List UInt8 := rs.flatMap fun x => ruleT x ss ++ [10]
/-- P11.2: rules' text, and why there is none. -/
def rpB (rs : List RuleV) (ss : List (List UInt8)) : List UInt8 × Int := if namesB ss then (if rulesB ss.length rs then (rulesT rs ss, 0) else ([], 90)) else ([], 2)

theorem last_app {a b : List UInt8} (h : b ≠ []) : (a ++ b).getLast? = b.getLast? := by
  rw [List.getLast?_append]
  rcases hb : b.getLast? with _ | c
  · exact absurd (List.getLast?_eq_none_iff.1 hb) h
  · rfl
theorem trim_id {t : List UInt8} (h1 : ∀ b, t.head? = some b → blankB b = false) (h2 : ∀ b, t.getLast? = some b → blankB b = false) : trimL t = t := by
  have e : t.reverse.dropWhile blankB = t.reverse := by
    rcases hr : t.reverse with _ | ⟨b, r⟩
    · rfl
    · have : t.getLast? = some b := by rw [← List.head?_reverse, hr]; rfl
      simp [h2 b this]
  unfold trimL
  rw [e, List.reverse_reverse]
  cases t with
  | nil => rfl
  | cons b r => simp [h1 b rfl]
theorem trim_behind {t : List UInt8} (h1 : ∀ b, t.head? = some b → blankB b = false) (h2 : ∀ b, t.getLast? = some b → blankB b = false) : trimL (t ++ [32]) = t := by
  have : trimL (t ++ [32]) = trimL t := by
    unfold trimL
    rw [List.reverse_append]
    rfl
  rw [this, trim_id h1 h2]
theorem trim_ahead {t : List UInt8} (h1 : ∀ b, t.head? = some b → blankB b = false) (h2 : ∀ b, t.getLast? = some b → blankB b = false) : trimL (32 :: t) = t := by
  unfold trimL
  rw [List.reverse_cons]
  have e : t.reverse.dropWhile blankB = t.reverse := by
    rcases hr : t.reverse with _ | ⟨b, r⟩
    · rfl
    · have : t.getLast? = some b := by rw [← List.head?_reverse, hr]; rfl
      simp [h2 b this]
  cases t with
  | nil => decide
  | cons b r =>
    have hne : (b :: r).reverse ≠ [] := by simp
    have e2 : ((b :: r).reverse ++ [32]).dropWhile blankB = (b :: r).reverse ++ [32] := by
      rcases hq : (b :: r).reverse with _ | ⟨c, q⟩
      · exact absurd hq hne
      · rw [hq] at e
        have hc : blankB c = false := by
          rcases hb : blankB c with _ | _
          · rfl
          · have := congrArg List.length e
            simp only [List.dropWhile_cons, hb, if_true] at this
            have h3 := (List.dropWhile_sublist blankB (l := q)).length_le
            simp at this; omega
        simp [hc]
    rw [e2]
    simp only [List.reverse_append, List.reverse_reverse, List.reverse_cons, List.reverse_nil, List.nil_append, List.cons_append]
    have h32 : blankB 32 = true := by decide
    simp [h32, h1 b rfl]

section
variable {ss : List (List UInt8)} (hN : namesB ss = true)
include hN

/-- The signs of texts: neither marks nor what ends lines. -/
theorem pat_text {st : Bool} {xs : List (Int × Int)} (hp : patB ss.length xs = true) : (∀ b ∈ (ppB st xs ss).1, b ≠ 43 ∧ b ≠ 47 ∧ b ≠ 35 ∧ b ≠ 10) ∧
    (∀ b, (ppB st xs ss).1.head? = some b → blankB b = false) ∧ (∀ b, (ppB st xs ss).1.getLast? = some b → blankB b = false) := by
  have hpp : ppB st xs ss = (Lib.join (outT st xs ss) [32], 0) := by rw [ppB, if_pos hN, if_pos hp]
  simp only [patB, Bool.and_eq_true, decide_eq_true_eq, List.all_eq_true] at hp
  obtain ⟨_, _, hlen, hx⟩ := hp
  have hlet : ∀ b : UInt8, letterB b = true → (b ≠ 43 ∧ b ≠ 47 ∧ b ≠ 35 ∧ b ≠ 10) ∧ blankB b = false := fun b hb => by
    have h10 := letter_not hb
    simp only [letterB, Bool.or_eq_true, Bool.and_eq_true, decide_eq_true_eq, beq_iff_eq] at hb
    have e : ∀ k : UInt8, b = k → b.toNat = k.toNat := fun k e => by rw [e]
    refine ⟨⟨fun hk => ?_, fun hk => ?_, fun hk => ?_, h10.1⟩, ?_⟩
    · have h2 := e _ hk; simp at h2; omega
    · have h2 := e _ hk; simp at h2; omega
    · have h2 := e _ hk; simp at h2; omega
    · rcases hbl : blankB b with _ | _
      · rfl
      · have h3 : b = 32 ∨ b = 9 ∨ b = 13 := by simpa [blankB] using hbl
        rcases h3 with h3 | h3 | h3 <;> (have h2 := e _ h3; simp at h2; omega)
  have hset : ∀ s, rightB s ss.length = true → (∀ b ∈ printB s ss, b ≠ 43 ∧ b ≠ 47 ∧ b ≠ 35 ∧ b ≠ 10) ∧ (∀ b, (printB s ss).head? = some b → blankB b = false) ∧ (∀ b, (printB s ss).getLast? = some b → blankB b = false) := by
    intro s hr
    have hbr : ∀ t : List UInt8, (∀ b ∈ t, b = 94 ∨ b = 32 ∨ letterB b = true) → (∀ b ∈ 91 :: (t ++ [93]), b ≠ 43 ∧ b ≠ 47 ∧ b ≠ 35 ∧ b ≠ 10) ∧ (∀ b, (91 :: (t ++ [93])).head? = some b → blankB b = false) ∧ (∀ b, (91 :: (t ++ [93])).getLast? = some b → blankB b = false) := fun t ht => by
      refine ⟨fun b hb => ?_, fun b hb => ?_, fun b hb => ?_⟩
      · simp only [List.mem_cons, List.mem_append, List.not_mem_nil, or_false] at hb
        rcases hb with rfl | hb | rfl
        · decide
        · rcases ht b hb with rfl | rfl | h
          · decide
          · decide
          · exact (hlet b h).1
        · decide
      · have : b = 91 := by simpa using hb.symm
        rw [this]; decide
      · rw [show 91 :: (t ++ [93]) = (91 :: t) ++ [93] from rfl, List.getLast?_concat] at hb
        have : b = 93 := by simpa using hb.symm
        rw [this]; decide
    unfold printB
    by_cases h1 : (bitsL s 32).length = ss.length
    · rw [if_pos h1]
      refine ⟨by decide, fun b hb => ?_, fun b hb => ?_⟩
      · have : b = 46 := by simpa using hb.symm
        rw [this]; decide
      · have : b = 46 := by simpa using hb.symm
        rw [this]; decide
    · rw [if_neg h1]
      by_cases h2 : (bitsL s 32).length = 1
      · rw [if_pos h2]
        obtain ⟨c, hc⟩ := List.length_eq_one_iff.1 h2
        have hl : listB s ss ∈ namesL s ss := by simp [listB, namesL, hc, Lib.join_one]
        have hl2 := name_letters (list_names hN hr _ hl)
        exact ⟨fun b hb => (hlet b (hl2 b hb)).1, fun b hb => (hlet b (hl2 b (List.mem_of_head? hb))).2, fun b hb => (hlet b (hl2 b (List.mem_of_getLast? hb))).2⟩
      · rw [if_neg h2]
        by_cases h3 : ss.length < 2 * (bitsL s 32).length
        · rw [if_pos h3]
          have e : [91, 94] ++ (listB (notB s ss.length) ss ++ [93]) = 91 :: (94 :: listB (notB s ss.length) ss ++ [93]) := by simp
          rw [e]
          refine hbr _ fun b hb => ?_
          rw [List.mem_cons] at hb
          rcases hb with h | h
          · exact .inl h
          · exact .inr (list_chars hN (rightB_not hr) h)
        · rw [if_neg h3]
          exact hbr _ fun b hb => .inr (list_chars hN hr hb)
  have hT : ∀ t ∈ outT st xs ss, t ≠ [] ∧ (∀ b ∈ t, b ≠ 43 ∧ b ≠ 47 ∧ b ≠ 35 ∧ b ≠ 10) ∧ (∀ b, t.head? = some b → blankB b = false) ∧ (∀ b, t.getLast? = some b → blankB b = false) := by
    intro t ht
    refine ⟨(out_text hN hx t ht).2.1, ?_⟩
    unfold outT at ht
    rcases List.mem_append.1 ht with h | h
    · cases st
      · simp at h
      · have : t = [94] := by simpa using h
        subst this
        refine ⟨by decide, fun b hb => ?_, fun b hb => ?_⟩
        · have : b = 94 := by simpa using hb.symm
          rw [this]; decide
        · have : b = 94 := by simpa using hb.symm
          rw [this]; decide
    · obtain ⟨x, hxm, rfl⟩ := List.mem_map.1 h
      have hi := hx x hxm
      simp only [itemB, Bool.and_eq_true, decide_eq_true_eq] at hi
      have hpc : pcB x.1 ss = (printB x.1 ss, 0) := by rw [pcB, if_pos hN, if_pos hi.2.2]
      obtain ⟨s1, s2, s3⟩ := hset x.1 hi.2.2
      have hne := (set_text hN hi.2.2).2.2.1
      unfold itemT
      rw [hpc]
      refine ⟨fun b hb => ?_, fun b hb => ?_, fun b hb => ?_⟩
      · rcases List.mem_append.1 hb with h | h
        · exact s1 b h
        · rw [rep_mem 42 _ b h]; decide
      · refine s2 b ?_
        rcases hq : printB x.1 ss with _ | ⟨c, q⟩
        · exact absurd hq hne
        · simp only [hq] at hb; simpa using hb
      · rcases hk : x.2.toNat with _ | k
        · simp only [hk, Lib.repeatL, List.append_nil] at hb; exact s3 b hb
        · have hb2 : b ∈ Lib.repeatL [42] x.2.toNat := by
            rw [List.getLast?_append] at hb
            have h9 : (Lib.repeatL [42] x.2.toNat).getLast? = some 42 := by
              rw [rep_replicate, hk, List.replicate_succ', List.getLast?_concat]
            rw [h9] at hb
            have : b = 42 := by simpa using hb.symm
            rw [this]; exact List.mem_of_getLast? h9
          rw [rep_mem 42 _ b hb2]; decide
  rw [hpp]
  generalize outT st xs ss = ts at hT
  refine ⟨fun b hb => ?_, ?_, ?_⟩
  · rcases join_mem _ _ _ hb with h | ⟨t, ht, hbt⟩
    · have : b = 32 := by simpa using h
      subst this; decide
    · exact (hT t ht).2.1 b hbt
  · rcases ts with _ | ⟨t, r⟩
    · intro b hb; simp [Lib.join_nil] at hb
    · intro b hb
      have h1 := hT t (by simp)
      refine h1.2.2.1 b ?_
      rcases t with _ | ⟨c, q⟩
      · exact absurd rfl h1.1
      · simp only [Lib.join_cons] at hb; simpa using hb
  · have key : ∀ us : List (List UInt8), us ≠ [] → (∀ t ∈ us, t ≠ []) → ∃ t ∈ us, (Lib.join us [32]).getLast? = t.getLast? := by
      intro us
      induction us with
      | nil => intro h; exact absurd rfl h
      | cons t r ih =>
        intro _ hall
        rcases r with _ | ⟨t2, r2⟩
        · exact ⟨t, by simp, by rw [Lib.join_one]⟩
        · obtain ⟨u, hu, he⟩ := ih (by simp) (fun v hv => hall v (List.mem_cons_of_mem _ hv))
          refine ⟨u, List.mem_cons_of_mem _ hu, ?_⟩
          have e : Lib.join (t :: t2 :: r2) [32] = (t ++ [32]) ++ Lib.join (t2 :: r2) [32] := by
            rw [Lib.join_cons, Lib.join_cons]; simp [Lib.joinTail]
          have hne : Lib.join (t2 :: r2) [32] ≠ [] := join_ne (hall t2 (by simp))
          rw [e, last_app hne, he]
    intro b hb
    rcases ts with _ | ⟨t, r⟩
    · simp [Lib.join_nil] at hb
    · obtain ⟨u, hu, he⟩ := key (t :: r) (by simp) (fun v hv => (hT v hv).1)
      simp only [he] at hb
      exact (hT u hu).2.2.2 b hb

omit hN in
theorem markI_app : ∀ (l : List UInt8) (m : UInt8) (r : List UInt8), (∀ b ∈ l, b ≠ 43 ∧ b ≠ 47) → (m = 43 ∨ m = 47) → markI (l ++ m :: r) = some (l, m, r)
  | [], m, r, _, hm => by simp [markI, hm]
  | b :: l, m, r, h, hm => by
    obtain ⟨h1, h2⟩ := h b (by simp)
    have h3 : ¬ (b = 43 ∨ b = 47) := by rintro (e | e); exact h1 e; exact h2 e
    rw [List.cons_append, markI, if_neg h3, markI_app l m r (fun c hc => h c (List.mem_cons_of_mem _ hc)) hm]
    rfl

theorem rule_form {x : RuleV} (hx : ruleOk ss.length x = true) : ∃ l r : List UInt8, ruleT x ss = l ++ (if x.br then 47 else 43) :: r ∧ trimL l = (ppB x.sl x.xl ss).1 ∧ trimL r = (ppB x.sr x.xr ss).1 ∧
    (∀ b ∈ l ++ r, b ≠ 43 ∧ b ≠ 47 ∧ b ≠ 35 ∧ b ≠ 10) ∧ (∀ b, l.head? = some b → blankB b = false) ∧ (∀ b, r.getLast? = some b → blankB b = false) := by
  simp only [ruleOk, Bool.and_eq_true] at hx
  obtain ⟨a1, a2, a3⟩ := pat_text hN (st := x.sl) hx.1
  obtain ⟨b1, b2, b3⟩ := pat_text hN (st := x.sr) hx.2.1
  unfold ruleT rulePs
  generalize (ppB x.sl x.xl ss).1 = p at *
  generalize (ppB x.sr x.xr ss).1 = q at *
  generalize (if x.br = true then (47 : UInt8) else 43) = m
  have h32 : (32 : UInt8) ≠ 43 ∧ (32 : UInt8) ≠ 47 ∧ (32 : UInt8) ≠ 35 ∧ (32 : UInt8) ≠ 10 := by decide
  by_cases hp : p = []
  · by_cases hq : q = []
    · subst hp hq
      refine ⟨[], [], by simp [Lib.join_one], by decide, by decide, by simp, by simp, by simp⟩
    · subst hp
      refine ⟨[], 32 :: q, ?_, by decide, trim_ahead b2 b3, fun b hb => ?_, by simp, fun b hb => ?_⟩
      · simp [hq, Lib.join_cons, Lib.joinTail]
      · rcases List.mem_cons.1 (by simpa using hb : b ∈ 32 :: q) with e | e
        · rw [e]; exact h32
        · exact b1 b e
      · refine b3 b ?_
        rcases q with _ | ⟨c, t⟩
        · exact absurd rfl hq
        · simpa [List.getLast?_cons_cons] using hb
  · by_cases hq : q = []
    · subst hq
      refine ⟨p ++ [32], [], ?_, trim_behind a2 a3, by decide, fun b hb => ?_, fun b hb => ?_, by simp⟩
      · simp [hp, Lib.join_cons, Lib.joinTail]
      · have hb' : b ∈ p ∨ b = 32 := by simpa using hb
        rcases hb' with e | e
        · exact a1 b e
        · rw [e]; exact h32
      · refine a2 b ?_
        rcases p with _ | ⟨c, t⟩
        · exact absurd rfl hp
        · simpa using hb
    · refine ⟨p ++ [32], 32 :: q, ?_, trim_behind a2 a3, trim_ahead b2 b3, fun b hb => ?_, fun b hb => ?_, fun b hb => ?_⟩
      · simp [hp, hq, Lib.join_cons, Lib.joinTail]
      · have hb' : b ∈ p ∨ b = 32 ∨ b = 32 ∨ b ∈ q := by simpa [or_assoc] using hb
        rcases hb' with e | e | e | e
        · exact a1 b e
        · rw [e]; exact h32
        · rw [e]; exact h32
        · exact b1 b e
      · refine a2 b ?_
        rcases p with _ | ⟨c, t⟩
        · exact absurd rfl hp
        · simpa using hb
      · refine b3 b ?_
        rcases q with _ | ⟨c, t⟩
        · exact absurd rfl hq
        · simpa [List.getLast?_cons_cons] using hb

/-- A rule's line is parsed as it. -/
theorem rule_back {x : RuleV} (hx : ruleOk ss.length x = true) : trimL (hashL (ruleT x ss)) = ruleT x ss ∧ ruleT x ss ≠ [] ∧ ruleP (ruleT x ss) ss = some x ∧ 10 ∉ ruleT x ss := by
  obtain ⟨l, r, he, hl, hr, hch, hh, ht⟩ := rule_form hN hx
  simp only [ruleOk, Bool.and_eq_true] at hx
  have hm : (if x.br then (47 : UInt8) else 43) = 43 ∨ (if x.br then (47 : UInt8) else 43) = 47 := by cases x.br <;> simp
  have hmb : blankB (if x.br then (47 : UInt8) else 43) = false := by cases x.br <;> decide
  have hmm : (if x.br then (47 : UInt8) else 43) ≠ 35 ∧ (if x.br then (47 : UInt8) else 43) ≠ 10 := by cases x.br <;> decide
  have hall : ∀ b ∈ ruleT x ss, b ≠ 35 ∧ b ≠ 10 := by
    intro b hb
    rw [he] at hb
    rcases List.mem_append.1 hb with e | e
    · have := hch b (List.mem_append_left _ e); exact ⟨this.2.2.1, this.2.2.2⟩
    · rcases List.mem_cons.1 e with e | e
      · rw [e]; exact hmm
      · have := hch b (List.mem_append_right _ e); exact ⟨this.2.2.1, this.2.2.2⟩
  have hhash : hashL (ruleT x ss) = ruleT x ss := hash_all _ (fun b hb => (hall b hb).1)
  refine ⟨?_, by rw [he]; simp, ?_, fun hb => (hall 10 hb).2 rfl⟩
  · rw [hhash, he]
    generalize (if x.br = true then (47 : UInt8) else 43) = m at hmb
    refine trim_id (fun b hb => ?_) (fun b hb => ?_)
    · rcases l with _ | ⟨c, t⟩
      · have : b = m := by simpa using hb.symm
        rw [this]; exact hmb
      · exact hh b (by simpa using hb)
    · rcases r with _ | ⟨c, t⟩
      · have : b = m := by simpa using hb.symm
        rw [this]; exact hmb
      · refine ht b ?_
        rw [last_app (by simp), List.getLast?_cons_cons] at hb
        exact hb
  · rw [he, ruleP, markI_app l _ r (fun b hb => by have := hch b (List.mem_append_left _ hb); exact ⟨this.1, this.2.1⟩) hm]
    have hsr : x.sr = false := by simpa using hx.2.2
    simp only [hl, hr, pattern_back hN hx.1, pattern_back hN hx.2.1, hsr, and_self, if_true]
    have hbr : ((if x.br = true then (47 : UInt8) else 43) == 47) = x.br := by cases x.br <;> decide
    rw [hbr, ← hsr]

theorem rules_split : ∀ rs : List RuleV, (∀ x ∈ rs, ruleOk ss.length x = true) → splitL 10 (rulesT rs ss) = rs.map (fun x => ruleT x ss) ++ [[]]
  | [], _ => rfl
  | x :: rs, h => by
    have e : rulesT (x :: rs) ss = ruleT x ss ++ 10 :: rulesT rs ss := by simp [rulesT]
    rw [e, splitL_app 10 _ _ (rule_back hN (h x (by simp))).2.2.2, rules_split rs (fun y hy => h y (List.mem_cons_of_mem _ hy))]
    rfl
theorem lines_back : ∀ (rs : List RuleV) (k : Nat) (acc : List RuleV), (∀ x ∈ rs, ruleOk ss.length x = true) → acc.length + rs.length ≤ 40 → linesP ss (rs.map (fun x => ruleT x ss) ++ [[]]) k acc = (acc ++ rs, 0, 0)
  | [], k, acc, _, _ => by
    have : trimL (hashL []) = [] := by decide
    simp [linesP, this]
  | x :: rs, k, acc, h, hl => by
    obtain ⟨h1, h2, h3, _⟩ := rule_back hN (h x (by simp))
    have h4 : ¬ acc.length = 40 := by simp at hl; omega
    simp only [List.map_cons, List.cons_append, linesP, h1, h2, if_false, h3, h4]
    rw [lines_back rs (k + 1) (acc ++ [x]) (fun y hy => h y (List.mem_cons_of_mem _ hy)) (by simp at hl ⊢; omega)]
    simp
/-- Rules' text is parsed as they are. -/
theorem rules_back {rs : List RuleV} (h : rulesB ss.length rs = true) : rparB (rpB rs ss).1 ss = (rs, 0, 0) := by
  have hr : rpB rs ss = (rulesT rs ss, 0) := by rw [rpB, if_pos hN, if_pos h]
  simp only [rulesB, Bool.and_eq_true, decide_eq_true_eq, List.all_eq_true] at h
  obtain ⟨_, _, hl, hx⟩ := h
  rw [hr, rparB, if_pos hN, rules_split hN rs hx, lines_back hN rs 0 [] hx (by simpa using hl)]
  rfl

theorem rule_right {s : List UInt8} {x : RuleV} (h : ruleP s ss = some x) : ruleOk ss.length x = true := by
  unfold ruleP at h
  split at h
  · cases h
  · split at h
    · rename_i hc
      obtain rfl := Option.some.inj h
      simp only [ruleOk, Bool.and_eq_true]
      exact ⟨pattern_right hN hc.1, pattern_right hN hc.2.1, by rw [hc.2.2]; rfl⟩
    · cases h
theorem lines_right : ∀ (ts : List (List UInt8)) (k : Nat) (acc : List RuleV), (∀ x ∈ acc, ruleOk ss.length x = true) → acc.length ≤ 40 → (linesP ss ts k acc).2.2 = 0 →
    (∀ x ∈ (linesP ss ts k acc).1, ruleOk ss.length x = true) ∧ (linesP ss ts k acc).1.length ≤ 40
  | [], k, acc, h, hl, _ => ⟨h, hl⟩
  | t :: ts, k, acc, h, hl, e => by
    unfold linesP at e ⊢
    split
    · rename_i hc; rw [if_pos hc] at e; exact lines_right ts (k + 1) acc h hl e
    · rename_i hc
      rw [if_neg hc] at e
      rcases hp : ruleP (trimL (hashL t)) ss with _ | x
      · rw [hp] at e; simp at e
      · rw [hp] at e
        simp only at e ⊢
        split
        · rename_i h40; rw [if_pos h40] at e; simp at e
        · rename_i h40
          rw [if_neg h40] at e
          refine lines_right ts (k + 1) (acc ++ [x]) (fun y hy => ?_) (by simp; omega) e
          rcases List.mem_append.1 hy with h1 | h1
          · exact h y h1
          · have : y = x := by simpa using h1
            rw [this]; exact rule_right hN hp
/-- What is parsed is right; else there is nothing. -/
theorem rules_right {s : List UInt8} (h : (rparB s ss).2.2 = 0) : rulesB ss.length (rparB s ss).1 = true := by
  obtain ⟨_, h1, h32⟩ := namesB_nodup hN
  unfold rparB at h ⊢
  rw [if_pos hN] at h ⊢
  obtain ⟨a, b⟩ := lines_right hN _ 0 [] (by simp) (by simp) h
  simp only [rulesB, Bool.and_eq_true, decide_eq_true_eq, List.all_eq_true]
  exact ⟨by omega, by omega, b, a⟩
end
theorem lines_none (ss : List (List UInt8)) : ∀ (ts : List (List UInt8)) (k : Nat) (acc : List RuleV), (linesP ss ts k acc).2.2 ≠ 0 → (linesP ss ts k acc).1 = []
  | [], k, acc, h => by simp [linesP] at h
  | t :: ts, k, acc, h => by
    unfold linesP at h ⊢
    split
    · rename_i hc; rw [if_pos hc] at h; exact lines_none ss ts (k + 1) acc h
    · rename_i hc
      rw [if_neg hc] at h
      rcases hp : ruleP (trimL (hashL t)) ss with _ | x
      · rfl
      · rw [hp] at h
        simp only at h ⊢
        split
        · rfl
        · rename_i h40; rw [if_neg h40] at h; exact lines_none ss ts (k + 1) _ h
theorem rpar_none {s : List UInt8} {ss : List (List UInt8)} (h : (rparB s ss).2.2 ≠ 0) : (rparB s ss).1 = [] := by
  unfold rparB at h ⊢
  split
  · rename_i hc; rw [if_pos hc] at h; exact lines_none ss _ 0 [] h
  · rfl
end Go.Vir

/- viramalaw05: Few. -/
namespace Go.Vir
open Go Go.RowKit Go.Proofs Go.Shelf
attribute [local go_sem] Oper.semAt_some

/-- The first thirty-four texts, of at most forty-two bytes. -/
def fewL (ss : List (List UInt8)) : List (List UInt8) := (ss.take 34).map fun s => s.take 42

theorem few_len (ss : List (List UInt8)) : (fewL ss).length ≤ 34 ∧ ∀ x ∈ fewL ss, x.length ≤ 42 := by
  unfold fewL
  refine ⟨by simp; omega, fun x hx => ?_⟩
  obtain ⟨y, _, rfl⟩ := List.mem_map.1 hx
  simp; omega
theorem few_succ {ss : List (List UInt8)} {k : Nat} (h : k < ss.length) (h34 : k < 34) : fewL (ss.take (k + 1)) = fewL (ss.take k) ++ [ss[k].take 42] := by
  unfold fewL
  rw [List.take_take, List.take_take, Nat.min_eq_right (by omega), Nat.min_eq_right (by omega), List.take_succ_eq_append_getElem h, List.map_append]
  rfl

theorem text_cut (s : List UInt8) (k : Nat) : (⟨s.toArray⟩ : ByteArray).extract 0 k = ⟨(s.take k).toArray⟩ := by
  apply ByteArray.ext
  simp [ByteArray.data_extract]

set_option maxRecDepth 100000 in
set_option maxHeartbeats 2000000 in
theorem law_Few5 (A : Option Addr) (n c : Nat) (ss : List (List UInt8)) (w : World) (hz : Strs w w.heap.size A n ss) (hn : n ≤ 9223372036854775807) :
    Calls Tryz.prog 13 #[.slice A n c] w fun e w' => (∃ A' n' c', e = .returned (.slice A' n' c') ∧ n' ≤ c' ∧ Strs w' w'.heap.size A' n' (fewL ss)) ∧ Below w.heap.size w w' := by
  obtain ⟨i0, hi0, hz0, hz1, hz2⟩ := info_parts str_info
  have Hlen := Lib.hid hz.len
  go_enter Tryz.func13, Tryz.ntmps13
  go_wp2
  go_loopw [3, 4] (fun v i wr => ∃ k : Nat, k ≤ n ∧ k ≤ 34 ∧ i = .int .i64 (k : Int) ∧ wr.ownsRow w.heap.size 9 1 v (fewL (ss.take k)).length (strVs (fewL (ss.take k))) ∧ Below w.heap.size w wr) (fun _ i _ => 34 - (RowKit.intOf i).toNat)
  case atStart => exact ⟨0, Nat.zero_le _, by omega, rfl, by simpa [fewL, strVs] using World.ownsRow_nil _ _ _ _, Below.refl _ _⟩
  case round =>
    obtain ⟨k, hk, hk34, rfl, hown, hb⟩ := hrel
    have hfl := (few_len (ss.take k)).1
    by_cases hlt : k < n ∧ k < 34
    · obtain ⟨h1, h2⟩ := hlt
      obtain ⟨sb, so, rfl, hsb, hsc⟩ := hz.at_ (by omega)
      have hks : k < ss.length := by rw [Hlen.out]; exact h1
      have s0 := hsc k hks
      have s1 := (cellOf hb hsb).trans s0
      have hsucc := few_succ hks h2
      have Hsucc := Lib.hid hsucc
      clear hsc hsucc
      generalize ss[k] = s at *
      go_upto_region 5 with fail
      have hb1 : Below w.heap.size w (wr.drew.alloc (.cells #[.string ⟨(s.take 42).toArray⟩] 9)) := hb.drew.alloc hb.size _
      have t1 := (cellOf hb1 hsb).trans s0
      have hcs : ∀ (j : Nat) (u : Value), [Value.string ⟨(s.take 42).toArray⟩][j]? = some u → (wr.drew.alloc (.cells #[.string ⟨(s.take 42).toArray⟩] 9)).cell? ((⟨wr.drew.heap.size, 0, none⟩ : Addr).add j) = some u := cell_one_new wr.drew _ _
      have Hcs := Lib.hid hcs
      have hown1 := hown.drew.alloc (.cells #[.string ⟨(s.take 42).toArray⟩] 9)
      have hbs := hb1.size
      have hmin : s.take (min s.length 42) = s.take 42 := by
        rcases Nat.le_total s.length 42 with h | h
        · rw [Nat.min_eq_left h, List.take_length, List.take_of_length_le h]
        · rw [Nat.min_eq_right h]
      clear hcs
      refine wp_region_noPanic ?_
      refine wp_region_held_drew (S := (fun V => V.cell? ⟨sb, so + k, none⟩ = some (.string ⟨s.toArray⟩))) (by kernel_rfl) s1 (fun hHeld => ?_)
      refine wpAnyH_take (i := 0) (v := u3) rfl (by kernel_rfl) (by kernel_rfl) (by kernel_rfl) (fun _ _ _ h => h) (.inl ⟨by rfl, fun V hV => by obtain c0 := hV; go_simp⟩) hHeld ?_
      try simp only [Act.put, List.getElem_toArray, List.getElem_cons_zero, List.setIfInBounds_toArray, List.set_cons_zero, List.set_cons_succ]
      refine wpAnyH_take (i := 1) (v := .slice (some ⟨sb, so, none⟩) n c) rfl (by kernel_rfl) (by kernel_rfl) (by kernel_rfl) (fun _ _ _ h => h) (.inl ⟨by rfl, fun V hV => by obtain c0 := hV; go_simp⟩) hHeld ?_
      try simp only [Act.put, List.getElem_toArray, List.getElem_cons_zero, List.getElem_cons_succ, List.setIfInBounds_toArray, List.set_cons_zero, List.set_cons_succ]
      refine wpAnyH_take (i := 2) (v := .int .i64 (k : Int)) rfl (by kernel_rfl) (by kernel_rfl) (by kernel_rfl) (fun _ _ _ h => h) (.inl ⟨by rfl, fun V hV => by obtain c0 := hV; go_simp⟩) hHeld ?_
      try simp only [Act.put, List.getElem_toArray, List.getElem_cons_zero, List.getElem_cons_succ, List.setIfInBounds_toArray, List.set_cons_zero, List.set_cons_succ]
      refine wpAnyH_take (i := 3) (v := .pointer (some ⟨sb, so + k, none⟩)) rfl (by kernel_rfl) (by kernel_rfl) (by kernel_rfl) (fun _ _ _ h => h) (.inl ⟨by rfl, fun V hV => by obtain c0 := hV; go_simp⟩) hHeld ?_
      try simp only [Act.put, List.getElem_toArray, List.getElem_cons_zero, List.getElem_cons_succ, List.setIfInBounds_toArray, List.set_cons_zero, List.set_cons_succ]
      refine wpAnyH_take (i := 4) (v := .string ⟨s.toArray⟩) rfl (by kernel_rfl) (by kernel_rfl) (by kernel_rfl) (fun _ _ _ h => h) (.inl ⟨by rfl, fun V hV => by obtain c0 := hV; go_simp⟩) hHeld ?_
      try simp only [Act.put, List.getElem_toArray, List.getElem_cons_zero, List.getElem_cons_succ, List.setIfInBounds_toArray, List.set_cons_zero, List.set_cons_succ]
      refine wpAnyH_take (i := 5) (v := .slice (some ⟨sb, so, none⟩) n c) rfl (by kernel_rfl) (by kernel_rfl) (by kernel_rfl) (fun _ _ _ h => h) (.inl ⟨by rfl, fun V hV => by obtain c0 := hV; go_simp⟩) hHeld ?_
      try simp only [Act.put, List.getElem_toArray, List.getElem_cons_zero, List.getElem_cons_succ, List.setIfInBounds_toArray, List.set_cons_zero, List.set_cons_succ]
      refine wpAnyH_take (i := 6) (v := .int .i64 (k : Int)) rfl (by kernel_rfl) (by kernel_rfl) (by kernel_rfl) (fun _ _ _ h => h) (.inl ⟨by rfl, fun V hV => by obtain c0 := hV; go_simp⟩) hHeld ?_
      try simp only [Act.put, List.getElem_toArray, List.getElem_cons_zero, List.getElem_cons_succ, List.setIfInBounds_toArray, List.set_cons_zero, List.set_cons_succ]
      refine wpAnyH_take (i := 7) (v := .pointer (some ⟨sb, so + k, none⟩)) rfl (by kernel_rfl) (by kernel_rfl) (by kernel_rfl) (fun _ _ _ h => h) (.inl ⟨by rfl, fun V hV => by obtain c0 := hV; go_simp⟩) hHeld ?_
      try simp only [Act.put, List.getElem_toArray, List.getElem_cons_zero, List.getElem_cons_succ, List.setIfInBounds_toArray, List.set_cons_zero, List.set_cons_succ]
      refine wpAnyH_take (i := 8) (v := .string ⟨s.toArray⟩) rfl (by kernel_rfl) (by kernel_rfl) (by kernel_rfl) (fun _ _ _ h => h) (.inl ⟨by rfl, fun V hV => by obtain c0 := hV; go_simp⟩) hHeld ?_
      try simp only [Act.put, List.getElem_toArray, List.getElem_cons_zero, List.getElem_cons_succ, List.setIfInBounds_toArray, List.set_cons_zero, List.set_cons_succ]
      refine wpAnyH_take (i := 9) (v := .int .i64 (s.length : Int)) rfl (by kernel_rfl) (by kernel_rfl) (by kernel_rfl) (fun _ _ _ h => h) (.inl ⟨by rfl, fun V hV => by obtain c0 := hV; go_simp⟩) hHeld ?_
      try simp only [Act.put, List.getElem_toArray, List.getElem_cons_zero, List.getElem_cons_succ, List.setIfInBounds_toArray, List.set_cons_zero, List.set_cons_succ]
      refine wpAnyH_take (i := 10) (v := .int .i64 (min (s.length : Int) 42)) rfl (by kernel_rfl) (by kernel_rfl) (by kernel_rfl) (fun _ _ _ h => h) (.inl ⟨by rfl, fun V hV => by obtain c0 := hV; go_simp⟩) hHeld ?_
      try simp only [Act.put, List.getElem_toArray, List.getElem_cons_zero, List.getElem_cons_succ, List.setIfInBounds_toArray, List.set_cons_zero, List.set_cons_succ]
      refine wpAnyH_take (i := 11) (v := .string ⟨(s.take 42).toArray⟩) rfl (by kernel_rfl) (by kernel_rfl) (by kernel_rfl) (fun _ _ _ h => h) (.inl ⟨by rfl, fun V hV => by obtain c0 := hV; go_simp; rw [show (min (s.length : Int) 42).toNat = min s.length 42 by omega, text_cut, hmin, if_pos ⟨by omega, by omega⟩]⟩) hHeld ?_
      try simp only [Act.put, List.getElem_toArray, List.getElem_cons_zero, List.getElem_cons_succ, List.setIfInBounds_toArray, List.set_cons_zero, List.set_cons_succ]
      refine wpAnyH_ready (rs := [12]) (by kernel_rfl) (by simp) ?_
      refine AllReadyH.cons rfl (fun K hK => ?_) AllReadyH.nil
      go_simp
      refine hK.out _ _ t1 (fun hHeld => ?_)
      clear hK K
      try simp only [Act.put, List.getElem_toArray, List.getElem_cons_zero, List.getElem_cons_succ, List.setIfInBounds_toArray, List.set_cons_zero, List.set_cons_succ]
      refine wpAnyH_ready (rs := [13]) (by kernel_rfl) (by simp) ?_
      refine AllReadyH.cons rfl (fun K hK => ?_) AllReadyH.nil
      refine step_append_mine rfl (.tmp 15) (.tmp 27) 23 rfl w.heap.size 9 i0 (.string ⟨#[]⟩) 1 16 Tryz.underlying23 hi0 hz0 hz1 hz2 rfl (by decide) u3 (fewL (ss.take k)).length (strVs (fewL (ss.take k))) (by simp [Act.eval]) hown1 ⟨wr.drew.heap.size, 0, none⟩ 1 1 [.string ⟨(s.take 42).toArray⟩] (by simp [Act.eval]) rfl Hcs.out (by simp [Value.oneCell']) (by simp only [maxLen]; omega) (by omega) hbs ?_
      intro v' w5 hown5 hgrow
      have hb5 : Below w.heap.size w w5 := hb1.grown hgrow hb1.size (fun g hg => (row_data hown1 g hg).1)
      have t5 := (cellOf hb5 hsb).trans s0
      refine hK.out _ _ t5 (fun hHeld => ?_)
      clear hK K
      try simp only [Act.put, List.getElem_toArray, List.getElem_cons_zero, List.getElem_cons_succ, List.setIfInBounds_toArray, List.set_cons_zero, List.set_cons_succ]
      refine wpAnyH_take (i := 14) (v := v') rfl (by kernel_rfl) (by kernel_rfl) (by kernel_rfl) (fun _ _ _ h => h) (.inl ⟨by rfl, fun V hV => by obtain c0 := hV; go_simp⟩) hHeld ?_
      try simp only [Act.put, List.getElem_toArray, List.getElem_cons_zero, List.getElem_cons_succ, List.setIfInBounds_toArray, List.set_cons_zero, List.set_cons_succ]
      refine wpAnyH_done (by kernel_rfl) ?_ _
      refine NoPanic.normal ?_
      have hown6 : w5.ownsRow w.heap.size 9 1 v' (fewL (ss.take (k + 1))).length (strVs (fewL (ss.take (k + 1)))) := by
        rw [Hsucc.out]
        have : strVs (fewL (ss.take k) ++ [s.take 42]) = strVs (fewL (ss.take k)) ++ [.string ⟨(s.take 42).toArray⟩] := by simp [strVs]
        rw [this, List.length_append]
        exact hown5
      clear hHeld hown5 hown1 hown hgrow t1 t5 hbs
      go_wp2_with fail
      go_roundw
      case rel => exact ⟨k + 1, by omega, by omega, by go_num, hown6, hb5⟩
      case measure => simp [RowKit.intOf]; omega
    · have hall : fewL (ss.take k) = fewL ss := by
        unfold fewL
        rw [List.take_take]
        rcases Nat.lt_or_ge k 34 with h | h
        · have : k = n := by omega
          rw [Nat.min_eq_right (by omega), List.take_of_length_le (by rw [Hlen.out]; omega), List.take_of_length_le (by rw [Hlen.out]; omega)]
        · rw [Nat.min_eq_left (by omega)]
      rw [hall] at hown
      obtain ⟨A', n', c', rfl, hn', hc', hS⟩ := slice_own hown
      subst hn'
      have hcase : n ≤ k ∨ (k < n ∧ 34 ≤ k) := by omega
      clear hlt hall hown
      rcases hcase with h | ⟨h, h'⟩
      · go_wp2_with fail
        go_ret
        exact ⟨⟨A', _, c', rfl, hc', hS⟩, hb⟩
      · go_wp2_with fail
        go_ret
        exact ⟨⟨A', _, c', rfl, hc', hS⟩, hb⟩
end Go.Vir

/- viramalaw09: shown. -/
namespace Go.Vir
open Go Go.RowKit Go.Proofs Go.Shelf
attribute [local go_sem] Oper.semAt_some

theorem sh1 : parsePB [65, 32, 66, 42] [[65], [66]] = ((false, [(1, 0), (2, 1)]), 0) := by decide +kernel
theorem sh2 : parsePB [94, 32, 65, 42, 42, 32, 65] [[65], [66]] = ((true, [(1, 2), (1, 0)]), 0) := by decide +kernel
theorem sh3 : ppB true [(1, 2), (1, 0)] [[65], [66]] = ([94, 32, 65, 42, 42, 32, 65], 0) := by decide +kernel
theorem sh4 : parsePB [65, 32, 67] [[65], [66]] = ((false, []), 80) := by decide +kernel
theorem sh5 : behindB false [(1, 0), (2, 1)] [1, 0, 1, 1] 4 = true := by decide +kernel
theorem sh6 : behindB true [(1, 2), (1, 0)] [0, 0] 2 = false := by decide +kernel
theorem sh7 : behindB true [(1, 2), (1, 0)] [0, 0, 0] 3 = true := by decide +kernel
theorem sh8 : fitsB [(1, 0), (2, 1)] [0] = true := by decide +kernel
theorem sh9 : aheadB false [(1, 0), (2, 1)] [1, 0] 1 = true := by decide +kernel

theorem names_AB (w : World) (W : World) (h : W.heap[w.heap.size]? = some (.cells #[.string ⟨#[65]⟩, .string ⟨#[66]⟩] 9 (0, 0))) : Strs W W.heap.size (some ⟨w.heap.size, 0, none⟩) 2 [[65], [66]] :=
  ⟨rfl, fun _ => ⟨w.heap.size, 0, rfl, (Array.getElem?_eq_some_iff.1 h).1, fun j hj => by
    match j, hj with
    | 0, _ => exact cell_blk h 0
    | 1, _ => exact cell_blk h 1⟩⟩

theorem ints_block {W : World} {b B t : Nat} {fz : Nat × Nat} {zs : List Int} (h : W.heap[b]? = some (.cells (zs.map (Value.int .i64)).toArray t fz)) (hB : b < B) : Ints W B (some ⟨b, 0, none⟩) zs.length zs :=
  ⟨rfl, fun _ => ⟨b, 0, rfl, hB, fun j hj => by
    have := cell_blk h j
    simp at this ⊢
    rw [this]; simp [hj]⟩⟩

theorem ints_new (W : World) (zs : List Int) (t : TypeId) : Ints (W.alloc (.cells (zs.map (Value.int .i64)).toArray t)) (W.alloc (.cells (zs.map (Value.int .i64)).toArray t)).heap.size (some ⟨W.heap.size, 0, none⟩) zs.length zs :=
  have h : (W.alloc (.cells (zs.map (Value.int .i64)).toArray t)).heap[W.heap.size]? = some (.cells (zs.map (Value.int .i64)).toArray t (0, 0)) := heap_new rfl
  ints_block h (Array.getElem?_eq_some_iff.1 h).1

end Go.Vir

/- viramalaw09: Cut. -/
namespace Go.Vir
open Go Go.RowKit Go.Proofs Go.Shelf
attribute [local go_sem] Oper.semAt_some

theorem law_Cut (st : Bool) (A : Option Addr) (n c : Nat) (w : World) (hc : n ≤ c) : Calls Tryz.prog 63 #[.agg #[.bool st, .slice A n c]] w fun e w' => e = .returned (.agg #[.bool st, .slice A (min n 12) c]) ∧ Below w.heap.size w w' := by
  go_enter Tryz.func63, Tryz.ntmps63
  go_wp2_with fail
  go_region
  go_wp2
  refine bodyPost_ret (v := .agg #[.bool st, .slice A (min n 12) c]) ?_ rfl ⟨rfl, ?_⟩
  · rw [show (min (n : Int) 12).toNat = min n 12 by omega]
    simp [results, Tryz.results63, go_sem]
  · exact Below.drew (by go_grown)
end Go.Vir

/- viramalaw09: PatternBack. -/
namespace Go.Vir
open Go Go.RowKit Go.Proofs Go.Shelf
attribute [local go_sem] Oper.semAt_some

theorem list_short {s : Int} {ss : List (List UInt8)} (hr : rightB s ss.length = true) (hs : ∀ x ∈ ss, x.length ≤ 42) : (listB s ss).length ≤ 1376 := by
  have h := join_length [32] 42 (namesL s ss) (fun x hx => hs x (namesL_mem hr rfl hx))
  have h2 := bitsL_len s 32
  have h3 : (namesL s ss).length ≤ 32 := by simpa [namesL] using h2
  have h4 := Nat.mul_le_mul h3 (Nat.le_refl (42 + [(32 : UInt8)].length))
  unfold listB
  simp only [List.length_cons, List.length_nil] at h h4
  omega
theorem print_short {s : Int} {ss : List (List UInt8)} (hr : rightB s ss.length = true) (hs : ∀ x ∈ ss, x.length ≤ 42) : (printB s ss).length ≤ 1379 := by
  have h1 := list_short hr hs
  have h2 := list_short (rightB_not hr) hs
  unfold printB
  split
  · simp
  · split
    · omega
    · split
      · simp; omega
      · simp; omega
theorem pp_short {st : Bool} {xs : List (Int × Int)} {ss : List (List UInt8)} (hs : ∀ x ∈ ss, x.length ≤ 42) : (ppB st xs ss).1.length ≤ 20000 := by
  unfold ppB
  split
  · split
    · rename_i hN hp
      simp only [patB, Bool.and_eq_true, decide_eq_true_eq, List.all_eq_true] at hp
      obtain ⟨_, _, hl, hx⟩ := hp
      have hT : ∀ t ∈ outT st xs ss, t.length ≤ 1381 := fun t ht => by
        unfold outT at ht
        rcases List.mem_append.1 ht with h | h
        · cases st
          · simp at h
          · have : t = [94] := by simpa using h
            rw [this]; simp
        · obtain ⟨x, hxm, rfl⟩ := List.mem_map.1 h
          have hi := hx x hxm
          simp only [itemB, Bool.and_eq_true, decide_eq_true_eq] at hi
          have hpc : pcB x.1 ss = (printB x.1 ss, 0) := by rw [pcB, if_pos hN, if_pos hi.2.2]
          have := print_short hi.2.2 hs
          unfold itemT
          rw [List.length_append, rep_len, hpc]
          show (printB x.1 ss).length + _ ≤ _
          omega
      have hn : (outT st xs ss).length ≤ 11 := by
        unfold outT
        rw [List.length_append, List.length_map]
        cases st <;> simp <;> omega
      have h := join_length [32] 1381 (outT st xs ss) hT
      have h4 := Nat.mul_le_mul hn (Nat.le_refl (1381 + [(32 : UInt8)].length))
      simp only [List.length_cons, List.length_nil] at h h4
      show (Lib.join (outT st xs ss) [32]).length ≤ 20000
      omega
    · simp
  · simp

theorem pp_good {st : Bool} {xs : List (Int × Int)} {ss : List (List UInt8)} : ((ppB st xs ss).2 = 0 ∧ namesB ss = true ∧ patB ss.length xs = true) ∨ ((ppB st xs ss).2 ≠ 0 ∧ (ppB st xs ss).1 = []) := by
  unfold ppB
  split
  · split
    · left; rename_i a b; exact ⟨rfl, a, b⟩
    · right; exact ⟨by decide, rfl⟩
  · right; exact ⟨by decide, rfl⟩
theorem parse_none {s : List UInt8} {ss : List (List UInt8)} (h : (parsePB s ss).2 ≠ 0) : (parsePB s ss).1.2 = [] := by
  unfold parsePB at h ⊢
  split
  · rfl
  · rename_i h1; rw [if_neg h1] at h
    split
    · rfl
    · rename_i h2; rw [if_neg h2] at h
      split
      · rfl
      · rename_i h3; rw [if_neg h3] at h
        split
        · rename_i xs hxs; rw [hxs] at h; simp at h
        · rfl
theorem parse_names {s : List UInt8} {ss : List (List UInt8)} (h : (parsePB s ss).2 = 0) : namesB ss = true := by
  rcases hn : namesB ss with _ | _
  · rw [parsePB, if_pos hn] at h; simp at h
  · rfl

end Go.Vir
