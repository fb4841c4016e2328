/- A pattern's text is parsed as it; what is parsed is right: plain laws on texts. -/
import Derived.Test.YtpjhjjkkbbmnjaaGreatDoorWkV
namespace Go.Vir
open Go

/-- What classes are together as a set. -/
def sumB : List Int → Int
  | [] => 0
  | c :: cs => 2 ^ c.toNat + sumB cs
theorem sumB_app : ∀ xs ys : List Int, sumB (xs ++ ys) = sumB xs + sumB ys
  | [], ys => by simp [sumB]
  | x :: xs, ys => by simp only [List.cons_append, sumB, sumB_app xs ys]; omega

theorem bitB_nat {a k : Nat} (hr : rightB a 32 = true) (hk : k < 32) : bitB (a : Int) (k : Int) = decide (a / 2 ^ k % 2 = 1) := by
  have h0 : (0 : Int) ≤ (k : Int) := by omega
  have h1 : (k : Int) < 32 := by omega
  have h2 : ((a : Int) / 2 ^ k % 2) = ((a / 2 ^ k % 2 : Nat) : Int) := by simp
  rw [bitB, hr]
  simp only [h0, h1, decide_true, Bool.true_and, Int.toNat_natCast, h2]
  rw [Bool.eq_iff_iff, beq_iff_eq, decide_eq_true_eq]
  omega

theorem sum_bits {a : Nat} (hr : rightB a 32 = true) : ∀ k, k ≤ 32 → sumB (bitsL a k) = ((a % 2 ^ k : Nat) : Int)
  | 0, _ => by simp [bitsL, sumB, Nat.mod_one]
  | k + 1, hk => by
    rw [bitsL_succ, sumB_app, sum_bits hr k (by omega), bitB_nat hr (by omega), Nat.mod_pow_succ]
    rcases Nat.mod_two_eq_zero_or_one (a / 2 ^ k) with h | h
    · simp [h, sumB]
    · simp [h, sumB]

theorem rightB_iff {s n : Int} : rightB s n = true ↔ 1 ≤ n ∧ n ≤ 32 ∧ 0 ≤ s ∧ s < 2 ^ n.toNat := by
  simp [rightB]
theorem rightB_32 {s n : Int} (h : rightB s n = true) : rightB s 32 = true := by
  rw [rightB_iff] at h ⊢
  have hp : (2 : Int) ^ n.toNat ≤ 2 ^ (32 : Int).toNat := by exact_mod_cast Nat.pow_le_pow_right (by decide) (show n.toNat ≤ (32 : Int).toNat by omega)
  omega
theorem sum_right {s n : Int} (h : rightB s n = true) : sumB (bitsL s 32) = s := by
  have h1 := rightB_32 h
  have h2 := rightB_iff.1 h1
  obtain ⟨a, rfl⟩ := Int.eq_ofNat_of_zero_le h2.2.2.1
  have h3 : a < 2 ^ 32 := by have := h2.2.2.2; simp at this; omega
  rw [sum_bits h1 32 (Nat.le_refl _), Nat.mod_eq_of_lt h3]

theorem bitsL_rising (s : Int) (n : Nat) : (bitsL s n).Pairwise (· < ·) := by
  unfold bitsL
  rw [List.pairwise_map]
  exact (List.pairwise_lt_range.filter _).imp (fun h => by omega)
theorem bitsL_range {s : Int} {n : Nat} (h : rightB s n = true) : ∀ c ∈ bitsL s 32, 0 ≤ c ∧ c.toNat < n := fun _ hc => bit_lt h (bitsL_mem hc)

theorem valB_get (ss : List (List UInt8)) : ∀ (i : Nat), ss.Nodup → ∀ c (h : c < ss.length), valB ss[c] ss i = some ((i + c : Nat) : Int) := by
  induction ss with
  | nil => intro i _ c h; simp at h
  | cons s t ih =>
    intro i hn c h
    rw [List.nodup_cons] at hn
    cases c with
    | zero => simp [valB]
    | succ c =>
      have hc : c < t.length := by simpa using h
      have hne : ¬ s = t[c] := fun e => hn.1 (e ▸ List.getElem_mem hc)
      simp only [List.getElem_cons_succ, valB, if_neg hne, ih (i + 1) hn.2 c hc]
      congr 2; omega

theorem bit_small {a : Int} {c : Int} (h0 : 0 ≤ a) (h : a < 2 ^ c.toNat) : bitB a c = false := by
  have : a / 2 ^ c.toNat = 0 := Int.ediv_eq_zero_of_lt h0 h
  simp [bitB, this]

theorem pow_add_le {c d : Int} (h0 : 0 ≤ c) (h : c < d) {a : Int} (ha : a < 2 ^ c.toNat) : a + 2 ^ c.toNat < 2 ^ d.toNat := by
  have h1 : c.toNat + 1 ≤ d.toNat := by omega
  have h2 : (2 : Int) ^ (c.toNat + 1) ≤ 2 ^ d.toNat := by exact_mod_cast Nat.pow_le_pow_right (by decide) h1
  rw [Int.pow_succ] at h2
  omega

theorem addB_sum {ss : List (List UInt8)} (hn : ss.Nodup) : ∀ (cs : List Int) (acc : Int), cs.Pairwise (· < ·) → (∀ c ∈ cs, 0 ≤ c ∧ c.toNat < ss.length) → 0 ≤ acc → (∀ c ∈ cs, acc < 2 ^ c.toNat) →
    addB ss (cs.map fun c => ss.getD c.toNat []) acc = some (acc + sumB cs)
  | [], acc, _, _, _, _ => by simp [addB, sumB]
  | c :: cs, acc, hp, hr, h0, ha => by
    rw [List.pairwise_cons] at hp
    obtain ⟨c0, c1⟩ := hr c (by simp)
    have hv : valB (ss.getD c.toNat []) ss 0 = some c := by
      have h1 : ss.getD c.toNat [] = ss[c.toNat] := by simp [List.getD_eq_getElem?_getD, c1]
      rw [h1, valB_get ss 0 hn c.toNat c1]
      congr 1; omega
    have hb := bit_small h0 (ha c (by simp))
    have hpos : (0 : Int) < 2 ^ c.toNat := by exact_mod_cast Nat.two_pow_pos c.toNat
    simp only [List.map_cons, addB, hv, hb, Bool.false_eq_true, if_false]
    rw [addB_sum hn cs (acc + 2 ^ c.toNat) hp.2 (fun d hd => hr d (List.mem_cons_of_mem _ hd)) (by omega) (fun d hd => pow_add_le c0 (hp.1 d hd) (ha c (by simp)))]
    simp only [sumB]; congr 1; omega

theorem splitL_join (c : UInt8) : ∀ (xs : List (List UInt8)), xs ≠ [] → (∀ x ∈ xs, c ∉ x) → splitL c (Lib.join xs [c]) = xs
  | [], h, _ => absurd rfl h
  | [x], _, h => by rw [Lib.join_one, splitL_miss c x (h x (by simp))]
  | x :: y :: t, _, h => by
    have e : Lib.join (x :: y :: t) [c] = x ++ c :: Lib.join (y :: t) [c] := by
      rw [Lib.join_cons, Lib.join_cons]; simp [Lib.joinTail]
    rw [e, splitL_app c x _ (h x (by simp)), splitL_join c (y :: t) (by simp) (fun z hz => h z (List.mem_cons_of_mem _ hz))]

theorem join_mem (sep : List UInt8) : ∀ (xs : List (List UInt8)) (b : UInt8), b ∈ Lib.join xs sep → b ∈ sep ∨ ∃ x ∈ xs, b ∈ x
  | [], b, h => by simp [Lib.join_nil] at h
  | [x], b, h => by rw [Lib.join_one] at h; exact .inr ⟨x, by simp, h⟩
  | x :: y :: t, b, h => by
    have e : Lib.join (x :: y :: t) sep = x ++ (sep ++ Lib.join (y :: t) sep) := by
      rw [Lib.join_cons, Lib.join_cons]; simp [Lib.joinTail]
    rw [e, List.mem_append, List.mem_append] at h
    rcases h with h | h | h
    · exact .inr ⟨x, by simp, h⟩
    · exact .inl h
    · rcases join_mem sep (y :: t) b h with h | ⟨z, hz, hb⟩
      · exact .inl h
      · exact .inr ⟨z, List.mem_cons_of_mem _ hz, hb⟩
theorem join_ne {sep : List UInt8} {x : List UInt8} {xs : List (List UInt8)} (h : x ≠ []) : Lib.join (x :: xs) sep ≠ [] := by
  rw [Lib.join_cons]; simp [h]

theorem names_all {ss : List (List UInt8)} (h : namesB ss = true) : ∀ x ∈ ss, nameB x = true := by
  simp only [namesB, Bool.and_eq_true, List.all_eq_true] at h
  exact h.2
theorem name_ne {x : List UInt8} (h : nameB x = true) : x ≠ [] := by
  rintro rfl; simp [nameB] at h
theorem name_letters {x : List UInt8} (h : nameB x = true) : ∀ b ∈ x, letterB b = true := by
  simp only [nameB, Bool.and_eq_true, List.all_eq_true] at h
  exact h.1
theorem letter_not {b : UInt8} (h : letterB b = true) : b ≠ 10 ∧ b ≠ 32 ∧ b ≠ 42 ∧ b ≠ 46 ∧ b ≠ 91 ∧ b ≠ 93 ∧ b ≠ 94 ∧ b.toNat < 128 := by
  simp only [letterB, Bool.or_eq_true, Bool.and_eq_true, decide_eq_true_eq, beq_iff_eq] at h
  have e : ∀ k : UInt8, b = k → b.toNat = k.toNat := fun k e => by rw [e]
  refine ⟨?_, ?_, ?_, ?_, ?_, ?_, ?_, by omega⟩ <;> (intro hb; have h2 := e _ hb; simp at h2; omega)

theorem rising_len (n : Nat) : ∀ (l : List Int) (i : Nat), l.Pairwise (· < ·) → (∀ c ∈ l, (i : Int) ≤ c ∧ c < n) → l.length + i ≤ n ∨ l = []
  | [], _, _, _ => .inr rfl
  | c :: cs, i, hp, hr => by
    rw [List.pairwise_cons] at hp
    obtain ⟨c0, c1⟩ := hr c (by simp)
    rcases rising_len n cs (i + 1) hp.2 (fun d hd => by have := hp.1 d hd; have := hr d (List.mem_cons_of_mem _ hd); omega) with h | h
    · left; simp; omega
    · left; simp [h]; omega
theorem rising_sum (n : Nat) : ∀ (l : List Int) (i : Nat), l.Pairwise (· < ·) → (∀ c ∈ l, (i : Int) ≤ c ∧ c < n) → l.length + i = n → sumB l = 2 ^ n - 2 ^ i
  | [], i, _, _, h => by
    have : i = n := by simpa using h
    simp [sumB, this]
  | c :: cs, i, hp, hr, h => by
    rw [List.pairwise_cons] at hp
    obtain ⟨c0, c1⟩ := hr c (by simp)
    simp at h
    have hcs : ∀ d ∈ cs, c + 1 ≤ d ∧ d < n := fun d hd => by have := hp.1 d hd; have := hr d (List.mem_cons_of_mem _ hd); omega
    have hci : c = i := by
      obtain ⟨k, rfl⟩ := Int.eq_ofNat_of_zero_le (show 0 ≤ c by omega)
      rcases rising_len n cs (k + 1) hp.2 (fun d hd => by have := hcs d hd; omega) with h2 | h2
      · omega
      · subst h2; simp at h; omega
    subst hci
    rw [sumB, rising_sum n cs (i + 1) hp.2 (fun d hd => by have := hcs d hd; omega) (by omega)]
    simp only [Int.toNat_natCast, Int.pow_succ]
    omega

section
variable {ss : List (List UInt8)} (hN : namesB ss = true)
include hN

theorem list_names {s : Int} (hr : rightB s ss.length = true) : ∀ x ∈ namesL s ss, nameB x = true := fun x hx => names_all hN x (namesL_mem hr rfl hx)

theorem list_parse {s : Int} (hr : rightB s ss.length = true) : (if listB s ss = [] then some 0 else addB ss (splitL 32 (listB s ss)) 0) = some s := by
  have hsum := sum_right hr
  have hnd := (namesB_nodup hN).1
  have hns := list_names hN hr
  rcases hb : bitsL s 32 with _ | ⟨c, cs⟩
  · have e : listB s ss = [] := by simp [listB, namesL, hb, Lib.join_nil]
    rw [if_pos e]
    rw [hb] at hsum
    simp [sumB] at hsum
    rw [hsum]
  · have e : namesL s ss ≠ [] := by simp [namesL, hb]
    have e2 : listB s ss ≠ [] := by
      unfold listB
      rcases hl : namesL s ss with _ | ⟨x, t⟩
      · exact absurd hl e
      · exact join_ne (name_ne (hns x (by rw [hl]; simp)))
    have e3 : splitL 32 (listB s ss) = namesL s ss := splitL_join 32 _ e (fun x hx hb => (letter_not (name_letters (hns x hx) 32 hb)).2.1 rfl)
    rw [if_neg e2, e3]
    have := addB_sum hnd (bitsL s 32) 0 (bitsL_rising s 32) (bitsL_range hr) (Int.le_refl _) (fun c _ => by exact_mod_cast Nat.two_pow_pos c.toNat)
    rw [hsum, Int.zero_add] at this
    exact this

theorem list_chars {s : Int} (hr : rightB s ss.length = true) {b : UInt8} (h : b ∈ listB s ss) : b = 32 ∨ letterB b = true := by
  rcases join_mem [32] _ b h with h | ⟨x, hx, hb⟩
  · exact .inl (by simpa using h)
  · exact .inr (name_letters (list_names hN hr x hx) b hb)

theorem list_head {s : Int} (hr : rightB s ss.length = true) : Lib.hasPrefix (listB s ss) [94] = false := by
  rcases hl : listB s ss with _ | ⟨b, t⟩
  · rfl
  · have hb : b ≠ 94 := by
      rcases list_chars hN hr (b := b) (by rw [hl]; simp) with rfl | h
      · decide
      · exact (letter_not h).2.2.2.2.2.2.1
    simp [Lib.hasPrefix, List.isPrefixOf, hb.symm]

omit hN in
theorem not_not {s : Int} (hr : rightB s ss.length = true) : notB (notB s ss.length) ss.length = s := by
  have h2 := rightB_not hr
  unfold notB at h2 ⊢
  rw [if_pos hr] at h2 ⊢
  rw [if_pos h2]
  omega

theorem valB_bracket {t : List UInt8} : valB (91 :: t) ss 0 = none := by
  have h := valB_isSome (91 :: t) ss 0
  have : ¬ (91 :: t) ∈ ss := fun hm => by
    have := letter_not (name_letters (names_all hN _ hm) 91 (by simp))
    exact this.2.2.2.2.1 rfl
  rw [decide_eq_false this] at h
  exact Option.not_isSome_iff_eq_none.1 (by rw [h]; simp)

omit hN in
theorem inside_bracket (t : List UInt8) : insideB (91 :: (t ++ [93])) = (t, true) := by
  have h1 : Lib.hasPrefix (91 :: (t ++ [93])) [91] = true := by simp [Lib.hasPrefix, List.isPrefixOf]
  have h2 : Lib.trimPrefix (91 :: (t ++ [93])) [91] = t ++ [93] := by rw [Lib.trimPrefix, if_pos h1]; rfl
  have h3 : Lib.hasSuffix (t ++ [93]) [93] = true := by
    unfold Lib.hasSuffix
    rw [List.isSuffixOf_iff_suffix]; exact List.suffix_append _ _
  unfold insideB
  rw [h1, h2, h3]
  have h4 : Lib.trimSuffix (t ++ [93]) [93] = t := by rw [Lib.trimSuffix, if_pos h3]; simp
  rw [h4]; rfl

omit hN in
theorem bits_full {s : Int} (hr : rightB s ss.length = true) (h : (bitsL s 32).length = ss.length) : s = 2 ^ ss.length - 1 := by
  have hsum := sum_right hr
  have h1 : ∀ c ∈ bitsL s 32, 0 ≤ c ∧ c.toNat < ss.length := bitsL_range hr
  have := rising_sum ss.length (bitsL s 32) 0 (bitsL_rising s 32) (fun c hc => by have := h1 c hc; omega) (by omega)
  rw [hsum] at this
  simpa using this

/-- A set's text is parsed as it. -/
theorem set_back {s : Int} (hr : rightB s ss.length = true) : parseSetB (printB s ss) ss = some s := by
  have hnd := (namesB_nodup hN).1
  unfold printB
  by_cases h1 : (bitsL s 32).length = ss.length
  · rw [if_pos h1, parseSetB, if_pos rfl, ← bits_full hr h1]
  · rw [if_neg h1]
    by_cases h2 : (bitsL s 32).length = 1
    · rw [if_pos h2]
      obtain ⟨c, hc⟩ := List.length_eq_one_iff.1 h2
      have hsum := sum_right hr
      rw [hc] at hsum
      obtain ⟨c0, c1⟩ := bitsL_range hr c (by rw [hc]; simp)
      have hl : listB s ss = ss[c.toNat] := by simp [listB, namesL, hc, Lib.join_one, List.getD_eq_getElem?_getD, c1]
      rw [hl]
      have hne : ¬ ss[c.toNat] = [46] := fun e => by
        have := letter_not (name_letters (names_all hN _ (List.getElem_mem c1)) 46 (by rw [e]; simp))
        exact this.2.2.2.1 rfl
      rw [parseSetB, if_neg hne, valB_get ss 0 hnd c.toNat c1]
      simp only [sumB] at hsum
      simp only [Nat.zero_add, Int.toNat_natCast]
      congr 1
    · rw [if_neg h2]
      by_cases h3 : ss.length < 2 * (bitsL s 32).length
      · rw [if_pos h3]
        have e : [91, 94] ++ (listB (notB s ss.length) ss ++ [93]) = 91 :: (94 :: listB (notB s ss.length) ss ++ [93]) := by simp
        have hr2 := rightB_not hr
        rw [e, parseSetB, if_neg (by simp), valB_bracket hN, inside_bracket]
        have h4 : Lib.hasPrefix (94 :: listB (notB s ss.length) ss) [94] = true := by simp [Lib.hasPrefix, List.isPrefixOf]
        have h5 : Lib.trimPrefix (94 :: listB (notB s ss.length) ss) [94] = listB (notB s ss.length) ss := by rw [Lib.trimPrefix, if_pos h4]; rfl
        simp only [h5, h4, Bool.true_eq_false, if_false, if_true, list_parse hN hr2, Option.map_some, not_not hr]
      · rw [if_neg h3]
        have e : [91] ++ (listB s ss ++ [93]) = 91 :: (listB s ss ++ [93]) := by simp
        rw [e, parseSetB, if_neg (by simp), valB_bracket hN, inside_bracket]
        have h4 := list_head hN hr
        have h5 : Lib.trimPrefix (listB s ss) [94] = listB s ss := by rw [Lib.trimPrefix, h4]; rfl
        simp only [h5, h4, Bool.true_eq_false, Bool.false_eq_true, if_false, list_parse hN hr, Option.map_some]
end

/-- How the marking of a text ends. -/
def stA : Bool → List UInt8 → Bool
  | i, [] => i
  | i, b :: t => stA (mark1 i b.toNat).2 t
theorem marksA_app : ∀ (i : Bool) (a b : List UInt8), marksA i (a ++ b) = marksA i a ++ marksA (stA i a) b ∧ stA i (a ++ b) = stA (stA i a) b
  | i, [], b => ⟨rfl, rfl⟩
  | i, x :: a, b => by
    obtain ⟨h1, h2⟩ := marksA_app (mark1 i x.toNat).2 a b
    simp [marksA, stA, h1, h2]
theorem toNat_back (b : UInt8) : ((b.toNat : Int)).toNat.toUInt8 = b := by simp
theorem byte_ne {b k : UInt8} {z : Int} (hz : z = (k.toNat : Int)) (h : b ≠ k) : ¬ ((b.toNat : Int) = z) := fun e => h (by
  apply UInt8.toNat.inj
  omega)
theorem marks_plain (i : Bool) : ∀ t : List UInt8, (∀ b ∈ t, b ≠ 91 ∧ b ≠ 93 ∧ b ≠ 32) → marksA i t = t ∧ stA i t = i
  | [], _ => ⟨rfl, rfl⟩
  | b :: t, h => by
    obtain ⟨h1, h2, h3⟩ := h b (by simp)
    have e : mark1 i b.toNat = ((b.toNat : Int), i) := by
      unfold mark1
      have q1 : ¬ ((b.toNat : Int) = 91) := byte_ne rfl h1
      have q2 : ¬ ((b.toNat : Int) = 93) := byte_ne rfl h2
      have q3 : ¬ ((b.toNat : Int) = 32) := byte_ne rfl h3
      rw [if_neg q1, if_neg q2, if_neg q3]
    obtain ⟨h4, h5⟩ := marks_plain i t (fun c hc => h c (List.mem_cons_of_mem _ hc))
    simp only [marksA, stA, e, h4, h5, toNat_back, and_self]
theorem marks_in : ∀ t : List UInt8, (∀ b ∈ t, b ≠ 91 ∧ b ≠ 93) → marksA true t = t ∧ stA true t = true
  | [], _ => ⟨rfl, rfl⟩
  | b :: t, h => by
    obtain ⟨h1, h2⟩ := h b (by simp)
    obtain ⟨h4, h5⟩ := marks_in t (fun c hc => h c (List.mem_cons_of_mem _ hc))
    by_cases h3 : b = 32
    · subst h3
      have e : mark1 true ((32 : UInt8).toNat : Int) = (32, true) := by decide
      simp only [marksA, stA, e, h4, h5, and_true]
      rfl
    · have e : mark1 true b.toNat = ((b.toNat : Int), true) := by
        unfold mark1
        have q1 : ¬ ((b.toNat : Int) = 91) := byte_ne rfl h1
        have q2 : ¬ ((b.toNat : Int) = 93) := byte_ne rfl h2
        have q3 : ¬ ((b.toNat : Int) = 32) := byte_ne rfl h3
        rw [if_neg q1, if_neg q2, if_neg q3]
      simp only [marksA, stA, e, h4, h5, toNat_back, and_self]
theorem marks_bracket {t : List UInt8} (h : ∀ b ∈ t, b ≠ 91 ∧ b ≠ 93) : marksA false (91 :: (t ++ [93])) = 91 :: (t ++ [93]) ∧ stA false (91 :: (t ++ [93])) = false := by
  obtain ⟨h1, h2⟩ := marks_in t h
  obtain ⟨h3, h4⟩ := marksA_app true t [93]
  have e : mark1 false ((91 : UInt8).toNat : Int) = (91, true) := by decide
  have e2 : mark1 true ((93 : UInt8).toNat : Int) = (93, false) := by decide
  have h5 : marksA true [93] = [93] := by decide
  have h6 : stA true [93] = false := by decide
  constructor
  · rw [marksA, e, h3, h1, h2, h5]; rfl
  · rw [stA, e, h4, h2, h6]

/-- A text that stands for itself among blanks. -/
def Bal (t : List UInt8) : Prop := marksA false t = t ∧ stA false t = false
theorem marks_join : ∀ xs : List (List UInt8), (∀ x ∈ xs, Bal x) → marksA false (Lib.join xs [32]) = Lib.join xs [10]
  | [], _ => by simp [Lib.join_nil, marksA]
  | [x], h => by rw [Lib.join_one, Lib.join_one]; exact (h x (by simp)).1
  | x :: y :: t, h => by
    have e : ∀ c, Lib.join (x :: y :: t) [c] = x ++ c :: Lib.join (y :: t) [c] := fun c => by
      rw [Lib.join_cons, Lib.join_cons]; simp [Lib.joinTail]
    obtain ⟨h1, h2⟩ := h x (by simp)
    have e2 : mark1 false ((32 : UInt8).toNat : Int) = (10, false) := by decide
    rw [e, e, (marksA_app _ _ _).1, h1, h2, marksA, e2, marks_join (y :: t) (fun z hz => h z (List.mem_cons_of_mem _ hz))]
    rfl

theorem rep_mem (c : UInt8) : ∀ (k : Nat) (b : UInt8), b ∈ Lib.repeatL [c] k → b = c
  | 0, b, h => by simp [Lib.repeatL] at h
  | k + 1, b, h => by
    simp only [Lib.repeatL, List.mem_append, List.mem_singleton] at h
    rcases h with h | h
    · exact h
    · exact rep_mem c k b h
theorem rep_replicate (c : UInt8) : ∀ k, Lib.repeatL [c] k = List.replicate k c
  | 0 => rfl
  | k + 1 => by simp [Lib.repeatL, rep_replicate c k, List.replicate_succ]
theorem trim_stars {t : List UInt8} (k : Nat) (h : t.getLast? ≠ some 42) : Lib.trimRightB (t ++ Lib.repeatL [42] k) 42 = t := by
  unfold Lib.trimRightB
  rw [rep_replicate, List.reverse_append, List.reverse_replicate, List.dropWhile_append_of_pos (by simp)]
  have h2 : t.reverse.dropWhile (fun x => x == 42) = t.reverse := by
    rcases hr : t.reverse with _ | ⟨b, r⟩
    · rfl
    · have : t.getLast? = some b := by rw [← List.head?_reverse, hr]; rfl
      have hb : b ≠ 42 := fun e => h (by rw [this, e])
      simp [hb]
  rw [h2, List.reverse_reverse]

section
variable {ss : List (List UInt8)} (hN : namesB ss = true)
include hN

/-- What is known of a set's text. -/
theorem set_text {s : Int} (hr : rightB s ss.length = true) : Bal (printB s ss) ∧ (printB s ss).getLast? ≠ some 42 ∧ printB s ss ≠ [] ∧ (printB s ss).head? ≠ some 94 ∧ ∀ b ∈ printB s ss, b ≠ 10 ∧ b.toNat < 128 := by
  have hbr : ∀ t : List UInt8, (∀ b ∈ t, b = 94 ∨ b = 32 ∨ letterB b = true) → Bal (91 :: (t ++ [93])) ∧ (91 :: (t ++ [93])).getLast? ≠ some 42 ∧ (91 :: (t ++ [93])) ≠ [] ∧ (91 :: (t ++ [93])).head? ≠ some 94 ∧ ∀ b ∈ 91 :: (t ++ [93]), b ≠ 10 ∧ b.toNat < 128 := fun t ht => by
    have hc : ∀ b ∈ t, (b ≠ 91 ∧ b ≠ 93) ∧ b ≠ 10 ∧ b.toNat < 128 := fun b hb => by
      rcases ht b hb with rfl | rfl | h
      · decide
      · decide
      · have := letter_not h; exact ⟨⟨this.2.2.2.2.1, this.2.2.2.2.2.1⟩, this.1, this.2.2.2.2.2.2.2⟩
    refine ⟨marks_bracket (fun b hb => (hc b hb).1), by rw [show 91 :: (t ++ [93]) = (91 :: t) ++ [93] from rfl, List.getLast?_concat]; decide, by simp, by simp, fun b hb => ?_⟩
    simp only [List.mem_cons, List.mem_append, List.not_mem_nil, or_false] at hb
    rcases hb with rfl | hb | rfl
    · decide
    · exact (hc b hb).2
    · decide
  unfold printB
  by_cases h1 : (bitsL s 32).length = ss.length
  · rw [if_pos h1]
    refine ⟨marks_plain false [46] (by decide), by decide, by decide, by decide, by decide⟩
  · rw [if_neg h1]
    by_cases h2 : (bitsL s 32).length = 1
    · rw [if_pos h2]
      obtain ⟨c, hc⟩ := List.length_eq_one_iff.1 h2
      have hl : listB s ss ∈ namesL s ss := by simp [listB, namesL, hc, Lib.join_one]
      have hn := list_names hN hr _ hl
      have hlet := name_letters hn
      have hne := name_ne hn
      refine ⟨marks_plain false _ fun b hb => ?_, fun e => ?_, hne, fun e => ?_, fun b hb => ?_⟩
      · have := letter_not (hlet b hb); exact ⟨this.2.2.2.2.1, this.2.2.2.2.2.1, this.2.1⟩
      · have := letter_not (hlet 42 (List.mem_of_getLast? e)); exact this.2.2.1 rfl
      · have := letter_not (hlet 94 (List.mem_of_head? e)); exact this.2.2.2.2.2.2.1 rfl
      · have := letter_not (hlet b hb); exact ⟨this.1, this.2.2.2.2.2.2.2⟩
    · rw [if_neg h2]
      by_cases h3 : ss.length < 2 * (bitsL s 32).length
      · rw [if_pos h3]
        have e : [91, 94] ++ (listB (notB s ss.length) ss ++ [93]) = 91 :: (94 :: listB (notB s ss.length) ss ++ [93]) := by simp
        rw [e]
        refine hbr _ fun b hb => ?_
        rw [List.mem_cons] at hb
        rcases hb with h | h
        · exact .inl h
        · exact .inr (list_chars hN (rightB_not hr) h)
      · rw [if_neg h3]
        exact hbr _ fun b hb => .inr (list_chars hN hr hb)

theorem item_back {x : Int × Int} (hx : itemB ss.length x = true) : itemPB (itemT ss x) ss = some x := by
  simp only [itemB, Bool.and_eq_true, decide_eq_true_eq] at hx
  obtain ⟨h0, h2, hr⟩ := hx
  have hp : pcB x.1 ss = (printB x.1 ss, 0) := by rw [pcB, if_pos hN, if_pos hr]
  have hc : cpB (printB x.1 ss) ss = (x.1, 0) := by rw [cpB, if_pos hN, set_back hN hr]
  have ht := trim_stars x.2.toNat (set_text hN hr).2.1
  unfold itemPB itemT
  simp only [hp, ht, hc, List.length_append, Lib.repeatL_length, List.length_singleton, Nat.mul_one, Nat.add_sub_cancel_left, true_and]
  rw [if_pos (by omega)]
  congr 1
  ext
  · rfl
  · simp; omega

theorem item_text {x : Int × Int} (hx : itemB ss.length x = true) : Bal (itemT ss x) ∧ itemT ss x ≠ [] ∧ (itemT ss x).head? ≠ some 94 ∧ ∀ b ∈ itemT ss x, b ≠ 10 ∧ b.toNat < 128 := by
  simp only [itemB, Bool.and_eq_true, decide_eq_true_eq] at hx
  obtain ⟨h0, h2, hr⟩ := hx
  have hp : pcB x.1 ss = (printB x.1 ss, 0) := by rw [pcB, if_pos hN, if_pos hr]
  obtain ⟨t1, t2, t3, t4, t5⟩ := set_text hN hr
  have hs := marks_plain false (Lib.repeatL [42] x.2.toNat) (fun b hb => by rw [rep_mem 42 _ b hb]; decide)
  unfold itemT
  rw [hp]
  refine ⟨⟨?_, ?_⟩, by simp [t3], ?_, fun b hb => ?_⟩
  · rw [(marksA_app _ _ _).1, t1.1, t1.2, hs.1]
  · rw [(marksA_app _ _ _).2, t1.2, hs.2]
  · rcases hq : printB x.1 ss with _ | ⟨c, t⟩
    · exact absurd hq t3
    · rw [hq] at t4; simpa using t4
  · rcases List.mem_append.1 hb with h | h
    · exact t5 b h
    · rw [rep_mem 42 _ b h]; decide

theorem items_back : ∀ (xs acc : List (Int × Int)), (∀ x ∈ xs, itemB ss.length x = true) → acc.length + xs.length ≤ 10 → itemsB ss (xs.map (itemT ss)) acc = some (acc ++ xs)
  | [], acc, _, _ => by simp [itemsB]
  | x :: xs, acc, hx, hl => by
    have h1 : ¬ acc.length = 10 := by simp at hl; omega
    simp only [List.map_cons, itemsB, item_back hN (hx x (by simp)), h1, if_false]
    rw [items_back xs (acc ++ [x]) (fun y hy => hx y (List.mem_cons_of_mem _ hy)) (by simp at hl ⊢; omega)]
    simp

theorem out_text {st : Bool} {xs : List (Int × Int)} (hx : ∀ x ∈ xs, itemB ss.length x = true) : ∀ t ∈ outT st xs ss, Bal t ∧ t ≠ [] ∧ ∀ b ∈ t, b ≠ 10 ∧ b.toNat < 128 := by
  intro t ht
  unfold outT at ht
  rcases List.mem_append.1 ht with h | h
  · cases st
    · simp at h
    · have : t = [94] := by simpa using h
      subst this
      exact ⟨marks_plain false [94] (by decide), by decide, by decide⟩
  · obtain ⟨x, hxm, rfl⟩ := List.mem_map.1 h
    obtain ⟨a, b, _, d⟩ := item_text hN (hx x hxm)
    exact ⟨a, b, d⟩

/-- A pattern's text is parsed as it. -/
theorem pattern_back {st : Bool} {xs : List (Int × Int)} (hp : patB ss.length xs = true) : parsePB (ppB st xs ss).1 ss = ((st, xs), 0) := by
  have hpp : ppB st xs ss = (Lib.join (outT st xs ss) [32], 0) := by rw [ppB, if_pos hN, if_pos hp]
  rw [hpp]
  simp only [patB, Bool.and_eq_true, decide_eq_true_eq, List.all_eq_true] at hp
  obtain ⟨_, _, hlen, hx⟩ := hp
  have hout := out_text hN (st := st) hx
  rcases ho : outT st xs ss with _ | ⟨t0, ts⟩
  · obtain ⟨h1, h2⟩ := List.append_eq_nil_iff.1 ho
    have hst : st = false := by cases st <;> simp at h1 ⊢
    have hxs : xs = [] := by simpa using h2
    subst hst hxs
    simp [Lib.join_nil, parsePB, hN]
  · have hne : Lib.join (t0 :: ts) [32] ≠ [] := join_ne (hout t0 (by rw [ho]; simp)).2.1
    have hbad : (Lib.join (t0 :: ts) [32]).any badB = false := by
      rw [List.any_eq_false]
      intro b hb
      have : b ≠ 10 ∧ b.toNat < 128 := by
        rcases join_mem _ _ _ hb with h | ⟨t, ht, hbt⟩
        · have : b = 32 := by simpa using h
          subst this; decide
        · exact (hout t (by rw [ho]; exact ht)).2.2 b hbt
      have h10 : ¬ b.toNat = 10 := fun e => this.1 (UInt8.toNat.inj e)
      simp [badB, h10, this.2]
    have hparts : partsA (Lib.join (t0 :: ts) [32]) = t0 :: ts := by
      unfold partsA
      rw [marks_join _ (fun t ht => (hout t (by rw [ho]; exact ht)).1)]
      exact splitL_join 10 _ (by simp) (fun t ht hb => ((hout t (by rw [ho]; exact ht)).2.2 10 hb).1 rfl)
    rw [parsePB, if_neg (by rw [hN]; decide), if_neg hne, if_neg (by rw [hbad]; decide), hparts, ← ho]
    cases st with
    | true =>
      have e : outT true xs ss = [94] :: xs.map (itemT ss) := rfl
      rw [e]
      simp [items_back hN xs [] hx (by simpa using hlen)]
    | false =>
      have e : outT false xs ss = xs.map (itemT ss) := rfl
      rw [e]
      have hh : ¬ (xs.map (itemT ss)).head? = some [94] := by
        rcases xs with _ | ⟨x, xs'⟩
        · simp
        · intro h
          have h3 := (item_text hN (hx x (by simp))).2.2.1
          simp at h
          rw [h] at h3; exact h3 rfl
      rw [if_neg hh, items_back hN xs [] hx (by simpa using hlen)]
      rw [decide_eq_false hh]
      rfl

omit hN in
theorem pow_lt_top {n c : Nat} (h : c < n) : ((2 : Int) ^ c) < 2 ^ n := by
  exact_mod_cast Nat.pow_lt_pow_right (by decide) h
omit hN in
theorem add_right' {s : Int} {c : Nat} {n : Nat} (hc : c < n) (hn : n ≤ 32) (hr : rightB s n = true) (hb : bitB s c = false) : rightB (s + 2 ^ c) n = true := by
  have h32 := rightB_32 hr
  obtain ⟨a1, a2, a3, a4⟩ := rightB_iff.1 hr
  obtain ⟨a, rfl⟩ := Int.eq_ofNat_of_zero_le a3
  rw [bitB_nat h32 (by omega), decide_eq_false_iff_not] at hb
  have ha : a < 2 ^ n := by simp at a4; exact_mod_cast a4
  have h1 : a / 2 ^ c % 2 = 0 := by omega
  have h2 : a + 2 ^ c < 2 ^ n := by
    have e : 2 ^ n = 2 ^ c * (2 * 2 ^ (n - c - 1)) := by
      rw [← Nat.pow_succ', ← Nat.pow_add, show c + (n - c - 1 + 1) = n by omega]
    have hq : a / 2 ^ c < 2 * 2 ^ (n - c - 1) := by
      rw [Nat.div_lt_iff_lt_mul (Nat.two_pow_pos c), Nat.mul_comm, ← e]; exact ha
    have hq2 : a / 2 ^ c + 1 < 2 * 2 ^ (n - c - 1) := by omega
    have hd := Nat.div_add_mod a (2 ^ c)
    have hm := Nat.mod_lt a (Nat.two_pow_pos c)
    have h3 : 2 ^ c * (a / 2 ^ c + 2) ≤ 2 ^ c * (2 * 2 ^ (n - c - 1)) := Nat.mul_le_mul_left _ (by omega)
    rw [← e, Nat.mul_add] at h3
    omega
  rw [rightB_iff]
  refine ⟨a1, a2, by have := Int.natCast_nonneg (2 ^ c); simp at this; omega, ?_⟩
  have : ((a + 2 ^ c : Nat) : Int) < ((2 ^ n : Nat) : Int) := by exact_mod_cast h2
  simpa using this

omit hN in
theorem addB_right (hn : ss.length ≤ 32) : ∀ (ts : List (List UInt8)) (acc r : Int), rightB acc ss.length = true → addB ss ts acc = some r → rightB r ss.length = true
  | [], acc, r, h, e => by simp [addB] at e; rw [← e]; exact h
  | t :: ts, acc, r, h, e => by
    unfold addB at e
    split at e
    · cases e
    · rename_i c hc
      split at e
      · cases e
      · rename_i hb
        obtain ⟨j, h1, h2⟩ := valB_range t ss 0 c hc
        have hcj : c = (j : Int) := by omega
        subst hcj
        exact addB_right hn ts _ r (by simp only [Int.toNat_natCast]; exact add_right' h2 hn h (by simpa using hb)) e

theorem parseSet_right {s : List UInt8} {r : Int} (h : parseSetB s ss = some r) : rightB r ss.length = true := by
  obtain ⟨hnd, h1, h32⟩ := namesB_nodup hN
  have hpos : ∀ k : Nat, (0 : Int) < 2 ^ k := fun k => by exact_mod_cast Nat.two_pow_pos k
  have hz : rightB 0 ss.length = true := rightB_iff.2 ⟨by omega, by omega, Int.le_refl _, by simpa using hpos ss.length⟩
  unfold parseSetB at h
  split at h
  · obtain rfl := Option.some.inj h
    have := hpos ss.length
    exact rightB_iff.2 ⟨by omega, by omega, by omega, by simp only [Int.toNat_natCast]; omega⟩
  · split at h
    · rename_i c hc
      obtain rfl := Option.some.inj h
      obtain ⟨j, e1, e2⟩ := valB_range s ss 0 c hc
      have hcj : c.toNat = j := by omega
      rw [hcj]
      have := hpos j
      exact rightB_iff.2 ⟨by omega, by omega, by omega, by simp only [Int.toNat_natCast]; exact pow_lt_top e2⟩
    · split at h
      · cases h
      · obtain ⟨x, hx, rfl⟩ := Option.map_eq_some_iff.1 h
        have hxr : rightB x ss.length = true := by
          split at hx
          · obtain rfl := Option.some.inj hx; exact hz
          · exact addB_right h32 _ 0 x hz hx
        split
        · exact rightB_not hxr
        · exact hxr

theorem item_right {t : List UInt8} {x : Int × Int} (h : itemPB t ss = some x) : itemB ss.length x = true := by
  unfold itemPB at h
  split at h
  · rename_i hc
    obtain rfl := Option.some.inj h
    have hr : rightB (cpB (Lib.trimRightB t 42) ss).1 ss.length = true := by
      have h1 := hc.1
      unfold cpB at h1 ⊢
      rw [if_pos hN] at h1 ⊢
      rcases hp : parseSetB (Lib.trimRightB t 42) ss with _ | r
      · rw [hp] at h1; simp at h1
      · exact parseSet_right hN hp
    simp only [itemB, hr, Bool.and_true, Bool.and_eq_true, decide_eq_true_eq]
    omega
  · cases h

theorem items_right : ∀ (ts : List (List UInt8)) (acc xs : List (Int × Int)), (∀ x ∈ acc, itemB ss.length x = true) → itemsB ss ts acc = some xs → ∀ x ∈ xs, itemB ss.length x = true
  | [], acc, xs, h, e => by simp [itemsB] at e; rw [← e]; exact h
  | t :: ts, acc, xs, h, e => by
    unfold itemsB at e
    split at e
    · cases e
    · rename_i x hx
      split at e
      · cases e
      · refine items_right ts (acc ++ [x]) xs (fun y hy => ?_) e
        rcases List.mem_append.1 hy with h1 | h1
        · exact h y h1
        · have : y = x := by simpa using h1
          rw [this]; exact item_right hN hx

/-- What is parsed is right. -/
theorem pattern_right {s : List UInt8} (h : (parsePB s ss).2 = 0) : patB ss.length (parsePB s ss).1.2 = true := by
  obtain ⟨hnd, h1, h32⟩ := namesB_nodup hN
  unfold parsePB at h ⊢
  rw [if_neg (by rw [hN]; decide)] at h ⊢
  have base : patB ss.length [] = true := by simp [patB]; omega
  by_cases h2 : s = []
  · rw [if_pos h2]; exact base
  · rw [if_neg h2] at h ⊢
    by_cases h3 : s.any badB = true
    · rw [if_pos h3] at h; simp at h
    · rw [if_neg h3] at h ⊢
      rcases hi : itemsB ss (if (partsA s).head? = some [94] then (partsA s).tail else partsA s) [] with _ | xs
      · rw [hi] at h; simp at h
      · have a := items_le _ _ _ (by simp) hi
        have b := items_right hN _ _ _ (fun x hx => by simp at hx) hi
        simp only [patB, Bool.and_eq_true, decide_eq_true_eq, List.all_eq_true]
        exact ⟨by omega, by omega, a, b⟩
end
end Go.Vir
