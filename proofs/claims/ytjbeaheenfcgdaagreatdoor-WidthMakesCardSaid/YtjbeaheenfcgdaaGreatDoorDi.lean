/- Joined texts: Fd3, Fd4, Rg4, Fd5, Fd6, SpO, Fd7, RngE. -/
import Derived.Test.YtjbeaheenfcgdaaGreatDoorDh
import Derived.Test.YtjbeaheenfcgdaaGreatDoorDb
import Derived.Test.YtjbeaheenfcgdaaGreatDoorDe
import Derived.Test.YtjbeaheenfcgdaaGreatDoorDa
import Derived.WalkLawsBesides
namespace Go.Vir
open Go Go.RowKit Go.Proofs Go.Shelf
attribute [local go_sem] Oper.semAt_some

def digR (b : UInt8) : Int := match digN b with | some d => (d : Int) | none => -1
set_option maxHeartbeats 800000 in
theorem ref_digit (b : UInt8) (w : World) : Calls Tryz.prog 178 #[.int .u8 (b.toNat : Int)] w fun e w' => e = .returned (.int .i64 (digR b)) ∧ w = w' := by
  have hb : b.toNat < 256 := b.toNat_lt
  have hd : digR b = if 48 ≤ b.toNat ∧ b.toNat ≤ 57 then (b.toNat : Int) - 48 else if 97 ≤ b.toNat ∧ b.toNat ≤ 102 then (b.toNat : Int) - 87 else if 65 ≤ b.toNat ∧ b.toNat ≤ 70 then (b.toNat : Int) - 55 else -1 := by
    unfold digR digN
    by_cases h1 : 48 ≤ b.toNat ∧ b.toNat ≤ 57
    · rw [if_pos h1, if_pos h1]; simp only; omega
    · rw [if_neg h1, if_neg h1]
      by_cases h2 : 97 ≤ b.toNat ∧ b.toNat ≤ 102
      · rw [if_pos h2, if_pos h2]; simp only; omega
      · rw [if_neg h2, if_neg h2]
        by_cases h3 : 65 ≤ b.toNat ∧ b.toNat ≤ 70
        · rw [if_pos h3, if_pos h3]; simp only; omega
        · rw [if_neg h3, if_neg h3]
  rw [hd]
  clear hd
  generalize b.toNat = c at *
  rcases (by omega : (48 ≤ c ∧ c ≤ 57) ∨ (97 ≤ c ∧ c ≤ 102) ∨ (65 ≤ c ∧ c ≤ 70) ∨ c < 48 ∨ (57 < c ∧ c < 65) ∨ (70 < c ∧ c < 97) ∨ 102 < c) with h | h | h | h | h | h | h
  · obtain ⟨h1, h2⟩ := h
    rw [if_pos ⟨h1, h2⟩]
    have g1 : 48 ≤ (c : Int) := by omega
    have g2 : (c : Int) ≤ 57 := by omega
    go_enter Tryz.func178, Tryz.ntmps178
    go_wp2
    go_ret
    exact ⟨by first | rfl | exact ret_int (by omega), rfl⟩
  · obtain ⟨h1, h2⟩ := h
    rw [if_neg (by omega), if_pos ⟨h1, h2⟩]
    have g0 : 48 ≤ (c : Int) := by omega
    have g1 : 57 < (c : Int) := by omega
    have g2 : 97 ≤ (c : Int) := by omega
    have g3 : (c : Int) ≤ 102 := by omega
    clear hb
    go_enter Tryz.func178, Tryz.ntmps178
    go_wp2
    go_ret
    exact ⟨by first | rfl | exact ret_int (by omega), rfl⟩
  · obtain ⟨h1, h2⟩ := h
    rw [if_neg (by omega), if_neg (by omega), if_pos ⟨h1, h2⟩]
    have g0 : 48 ≤ (c : Int) := by omega
    have g1 : 57 < (c : Int) := by omega
    have g2 : (c : Int) < 97 := by omega
    have g3 : 65 ≤ (c : Int) := by omega
    have g4 : (c : Int) ≤ 70 := by omega
    clear hb
    go_enter Tryz.func178, Tryz.ntmps178
    go_wp2
    go_ret
    exact ⟨by first | rfl | exact ret_int (by omega), rfl⟩
  · have h1 := h
    rw [if_neg (by omega), if_neg (by omega), if_neg (by omega)]
    have g0 : (c : Int) < 48 := by omega
    have g1 : (c : Int) < 97 := by omega
    have g2 : (c : Int) < 65 := by omega
    clear hb
    go_enter Tryz.func178, Tryz.ntmps178
    go_wp2
    go_ret
    exact ⟨by first | rfl | exact ret_int (by omega), rfl⟩
  · obtain ⟨h1, h2⟩ := h
    rw [if_neg (by omega), if_neg (by omega), if_neg (by omega)]
    have g0 : 48 ≤ (c : Int) := by omega
    have g1 : 57 < (c : Int) := by omega
    have g2 : (c : Int) < 97 := by omega
    have g3 : (c : Int) < 65 := by omega
    clear hb
    go_enter Tryz.func178, Tryz.ntmps178
    go_wp2
    go_ret
    exact ⟨by first | rfl | exact ret_int (by omega), rfl⟩
  · obtain ⟨h1, h2⟩ := h
    rw [if_neg (by omega), if_neg (by omega), if_neg (by omega)]
    have g0 : 48 ≤ (c : Int) := by omega
    have g1 : 57 < (c : Int) := by omega
    have g2 : (c : Int) < 97 := by omega
    have g3 : 65 ≤ (c : Int) := by omega
    have g4 : 70 < (c : Int) := by omega
    clear hb
    go_enter Tryz.func178, Tryz.ntmps178
    go_wp2
    go_ret
    exact ⟨by first | rfl | exact ret_int (by omega), rfl⟩
  · have h1 := h
    rw [if_neg (by omega), if_neg (by omega), if_neg (by omega)]
    have g0 : 48 ≤ (c : Int) := by omega
    have g1 : 57 < (c : Int) := by omega
    have g2 : 97 ≤ (c : Int) := by omega
    have g3 : 102 < (c : Int) := by omega
    have g4 : 65 ≤ (c : Int) := by omega
    have g5 : 70 < (c : Int) := by omega
    clear hb
    go_enter Tryz.func178, Tryz.ntmps178
    go_wp2
    go_ret
    exact ⟨by first | rfl | exact ret_int (by omega), rfl⟩

set_option maxHeartbeats 800000 in
theorem ref_Code (s : List UInt8) (w : World) (hs : s.length ≤ 9223372036854775807) :
    Calls Tryz.prog 167 #[.string ⟨s.toArray⟩] w fun e w' => e = .returned (.tuple #[.int .i64 (codeI s), .bool (codeN s).isSome]) ∧ w = w' := by
  by_cases hlen : s.length < 4 ∨ 6 < s.length
  · obtain ⟨h1, h2⟩ := code_long hlen
    rw [h1, h2]
    clear h1 h2
    rcases (by omega : s.length < 4 ∨ (¬ s.length < 4 ∧ 6 < s.length)) with h | ⟨h, h'⟩
    · go_enter Tryz.func167, Tryz.ntmps167
      go_wp2
      go_ret2
      exact ⟨rfl, rfl⟩
    · go_enter Tryz.func167, Tryz.ntmps167
      go_wp2
      go_ret2
      exact ⟨rfl, rfl⟩
  · have hc := code_digs hlen
    have hci : codeI s = (((digsN s 0).getD 0 : Nat) : Int) := by unfold codeI; rw [hc]
    rw [hc, hci]
    have h4 : ¬ s.length < 4 := by omega
    have h6 : ¬ 6 < s.length := by omega
    obtain ⟨R, hR⟩ : ∃ R, digsN s 0 = R := ⟨_, rfl⟩
    rw [hR]
    have HR := Lib.hid hR
    clear hc hci hlen hR
    go_enter Tryz.func167, Tryz.ntmps167
    go_wp2_with fail
    go_loop [4, 5] (fun v i => ∃ pos n : Nat, pos ≤ s.length ∧ i = .int .i64 (pos : Int) ∧ v = .int .i64 (n : Int) ∧ digsN (s.drop pos) n = digsN s 0 ∧ n < 16 ^ pos) (fun _ i => s.length - (RowKit.intOf i).toNat)
    case atStart => exact ⟨0, 0, Nat.zero_le _, rfl, rfl, rfl, by simp⟩
    case round =>
      obtain ⟨pos, n, hpos, rfl, rfl, hd, hn⟩ := hrel
      rcases Nat.lt_or_ge pos s.length with hlt | hge
      · have hst := digs_step hlt hd
        have hn5 := pow_five hn (by omega)
        have hx := ref_digit s[pos]
        have hdr : digR s[pos] = match digN s[pos] with | some d => (d : Int) | none => -1 := rfl
        rcases hdn : digN s[pos] with _ | d
        · rw [hdn] at hst hdr
          simp only at hst hdr
          rw [hdr] at hx
          have hfin : R = none := by rw [← HR.out, hst]
          have Hf := Lib.hid hfin
          have Hx := Lib.hid hx
          clear hst hdn hd hn hfin hdr hx
          go_wp2_with fail
          simp only [byte_at s pos _ hlt]
          refine (Hx.out _).mono ?_
          rintro e w2 ⟨rfl, rfl⟩
          go_wp2_with fail
          go_ret2
          exact ⟨by rw [Hf.out]; rfl, rfl⟩
        · have hd16 := digN_lt hdn
          rw [hdn] at hst hdr
          simp only at hst hdr
          rw [hdr] at hx
          have hn' := pow_next hn hd16
          have Hn' := Lib.hid hn'
          have Hst := Lib.hid hst
          have Hx := Lib.hid hx
          clear hst hdn hd hn hn' hdr hx
          go_wp2_with fail
          simp only [byte_at s pos _ hlt]
          refine (Hx.out _).mono ?_
          rintro e w2 ⟨rfl, rfl⟩
          go_wp2_with fail
          go_round
          case rel => exact ⟨pos + 1, 16 * n + d, by omega, by go_num, by congr 1, Hst.out.symm, Hn'.out⟩
          case measure => simp [RowKit.intOf]; omega
      · have hfin : R = some n := by rw [← HR.out, ← hd, List.drop_eq_nil_of_le hge]; rfl
        have Hf := Lib.hid hfin
        clear hd hn hfin
        go_wp2_with fail
        go_ret2
        exact ⟨by rw [Hf.out]; rfl, rfl⟩
end Go.Vir


namespace Go.Vir
open Go Go.RowKit Go.Proofs Go.Shelf
attribute [local go_sem] Oper.semAt_some

theorem cut_dots : ∀ s : List UInt8, Lib.cut s [46, 46] = match dotsL s with | some (h, t) => (h, t, true) | none => (s, [], false) := by
  have key : ∀ s : List UInt8, match dotsL s with | some (h, _) => Lib.index s [46, 46] = (h.length : Int) | none => Lib.index s [46, 46] = -1 := by
    intro s
    induction s with
    | nil => rfl
    | cons b s ih =>
      unfold dotsL Lib.index
      have hp : ([46, 46] : List UInt8).isPrefixOf (b :: s) = decide (b = 46 ∧ s.head? = some 46) := by
        cases s with
        | nil => rw [Bool.eq_iff_iff]; simp [List.isPrefixOf]
        | cons c s =>
          show ((46 == b) && ((46 == c) && true)) = _
          rw [Bool.and_true, Bool.eq_iff_iff, Bool.and_eq_true, beq_iff_eq, beq_iff_eq, decide_eq_true_eq]
          exact ⟨fun h => ⟨h.1.symm, by rw [← h.2]; rfl⟩, fun h => ⟨h.1.symm, by have := h.2; simp at this; exact this.symm⟩⟩
      rw [hp]
      by_cases hc : b = 46 ∧ s.head? = some 46
      · rw [if_pos hc, decide_eq_true hc]; rfl
      · rw [if_neg hc, decide_eq_false hc]
        simp only [Bool.false_eq_true, if_false]
        rcases hd : dotsL s with _ | ⟨h, t⟩
        · rw [hd] at ih
          simp only at ih
          simp only [Option.map_none, ih]
          rfl
        · rw [hd] at ih
          simp only at ih
          simp only [Option.map_some, ih]
          have : (((h.length : Nat) : Int) == -1) = false := by rw [beq_eq_false_iff_ne]; omega
          rw [this]
          simp
  intro s
  have h := key s
  unfold Lib.cut
  rcases hd : dotsL s with _ | ⟨x, t⟩
  · rw [hd] at h
    simp only at h
    rw [h]
    rfl
  · rw [hd] at h
    simp only at h
    have hs := dots_len hd
    rw [h, if_pos (by omega)]
    simp only [Int.toNat_natCast]
    rw [hs]
    simp

theorem float_FF (n : Nat) : floatOfInt .f64 (n : Int) = FF n := nearest_FF n
def EndsR (r : Option (Nat × Nat)) (e : Ending) : Prop := ∃ a b : Int, e = .returned (.tuple #[.int .i64 a, .int .i64 b, .bool r.isSome]) ∧ ∀ x y, r = some (x, y) → a = (x : Int) ∧ b = (y : Int)
def EndsC (r : Option (Nat × Nat)) (e : Ending) : Prop := ∃ a b : Nat, e = .returned (.tuple #[.complex .f64 (FF a) (FF b), .bool r.isSome]) ∧ ∀ x y, r = some (x, y) → a = x ∧ b = y
theorem ends_two {s h t : List UInt8} (hd : dotsL s = some (h, t)) : (endsN s).isSome = ((codeN h).isSome && (codeN t).isSome) ∧ ∀ x y, endsN s = some (x, y) → codeI h = (x : Int) ∧ codeI t = (y : Int) ∧ (codeN h).getD 0 = x ∧ (codeN t).getD 0 = y := by
  have e : endsN s = match codeN h, codeN t with
    | some a, some b => some (a, b)
    | _, _ => none := by unfold endsN; rw [hd]; rfl
  rw [e]
  unfold codeI
  rcases codeN h with _ | a
  · exact ⟨rfl, fun x y h => by cases h⟩
  · rcases codeN t with _ | b
    · exact ⟨rfl, fun x y h => by cases h⟩
    · exact ⟨rfl, fun x y h => by cases h; exact ⟨rfl, rfl, rfl, rfl⟩⟩
theorem ends_one {s : List UInt8} (hd : dotsL s = none) : (endsN s).isSome = (codeN s).isSome ∧ ∀ x y, endsN s = some (x, y) → codeI s = (x : Int) ∧ codeI s = (y : Int) ∧ (codeN s).getD 0 = x ∧ (codeN s).getD 0 = y := by
  have e : endsN s = (codeN s).map fun n => (n, n) := by unfold endsN; rw [hd]
  rw [e]
  unfold codeI
  rcases codeN s with _ | a
  · exact ⟨rfl, fun x y h => by cases h⟩
  · exact ⟨rfl, fun x y h => by cases h; exact ⟨rfl, rfl, rfl, rfl⟩⟩

set_option maxHeartbeats 1600000 in
theorem field_ends (s : List UInt8) (w : World) (hG : ∃ m, w.cell? ⟨9, 0, none⟩ = some (.int .i64 m)) (hs : s.length ≤ 1000000) :
    Calls Tryz.prog 183 #[.string ⟨s.toArray⟩] w fun e w' => EndsC (endsN s) e ∧ Below w.heap.size w w' := by
  obtain ⟨mm, hmm⟩ := hG
  have hcut := Tryz.strings_Cut ⟨s.toArray⟩ ⟨#[46, 46]⟩ mm w (by have := Lib.size_eq ⟨s.toArray⟩; simp at this ⊢; omega) hmm
  rw [show (⟨s.toArray⟩ : ByteArray).data.toList = s by simp, show (⟨#[46, 46]⟩ : ByteArray).data.toList = [46, 46] by rfl, cut_dots] at hcut
  have hnf := float_FF
  rcases hd : dotsL s with _ | ⟨h, t⟩
  · rw [hd] at hcut
    simp only at hcut
    obtain ⟨h1, h2⟩ := ends_one hd
    have hc := fun W => field_Code s W (by omega)
    rw [show codeI s = (((codeN s).getD 0 : Nat) : Int) from rfl] at hc
    generalize endsN s = R at *
    have H2 := Lib.hid h2
    have Hcut := Lib.hid hcut
    have Hc := Lib.hid hc
    have H1 := Lib.hid h1
    clear h1 h2 hcut hc hd
    generalize (codeN s).isSome = ok at *
    generalize (codeN s).getD 0 = a at *
    go_enter Tryz.func183, Tryz.ntmps183
    go_wp2_with fail
    refine Hcut.out.mono ?_
    rintro e w1 ⟨rfl, q, rfl⟩
    go_wp2_with fail
    refine (Hc.out _).mono ?_
    rintro e w2 ⟨rfl, hb2⟩
    go_wp2_with fail
    go_ret2
    exact ⟨⟨a, a, by rw [H1.out]; rfl, fun x y hxy => ⟨(H2.out x y hxy).2.2.1, (H2.out x y hxy).2.2.2⟩⟩, (below_drewN _ _ _).trans hb2⟩
  · rw [hd] at hcut
    simp only at hcut
    obtain ⟨h1, h2⟩ := ends_two hd
    have hlen := congrArg List.length (dots_len hd)
    simp only [List.length_append, List.length_cons] at hlen
    have hc1 := fun W => field_Code h W (by omega)
    have hc2 := fun W => field_Code t W (by omega)
    rw [show codeI h = (((codeN h).getD 0 : Nat) : Int) from rfl] at hc1
    rw [show codeI t = (((codeN t).getD 0 : Nat) : Int) from rfl] at hc2
    generalize endsN s = R at *
    have H2 := Lib.hid h2
    have Hcut := Lib.hid hcut
    have Hc1 := Lib.hid hc1
    have Hc2 := Lib.hid hc2
    have H1 := Lib.hid h1
    clear h1 h2 hcut hc1 hc2 hd hlen
    generalize (codeN h).isSome = ok at *
    generalize (codeN h).getD 0 = a at *
    generalize (codeN t).isSome = ok2 at *
    generalize (codeN t).getD 0 = b at *
    go_enter Tryz.func183, Tryz.ntmps183
    go_wp2_with fail
    refine Hcut.out.mono ?_
    rintro e w1 ⟨rfl, q, rfl⟩
    go_wp2_with fail
    refine (Hc1.out _).mono ?_
    rintro e w2 ⟨rfl, hb2⟩
    go_wp2_with fail
    refine (Hc2.out _).mono ?_
    rintro e w3 ⟨rfl, hb3⟩
    have hbq := ((below_drewN w.heap.size w q).trans hb2).trans (hb3.mono hb2.size)
    rcases ok with _ | _
    · go_wp2_with fail
      go_ret2
      exact ⟨⟨a, b, by rw [H1.out]; rfl, fun x y hxy => ⟨(H2.out x y hxy).2.2.1, (H2.out x y hxy).2.2.2⟩⟩, hbq⟩
    · go_wp2_with fail
      go_ret2
      exact ⟨⟨a, b, by rw [H1.out]; rfl, fun x y hxy => ⟨(H2.out x y hxy).2.2.1, (H2.out x y hxy).2.2.2⟩⟩, hbq⟩

theorem dots_here {s : List UInt8} (k : Nat) (hno : ∀ j, j < k → (s.drop j).take 2 ≠ [46, 46]) (hk : k + 2 ≤ s.length) (he : (s.drop k).take 2 = [46, 46]) : dotsL s = some (s.take k, s.drop (k + 2)) := by
  induction s generalizing k with
  | nil => simp at hk
  | cons b s ih =>
    unfold dotsL
    cases k with
    | zero =>
      cases s with
      | nil => simp at hk
      | cons c s =>
        simp at he
        rw [if_pos ⟨he.1, by simp [he.2]⟩]
        rfl
    | succ k =>
      have h0 := hno 0 (by omega)
      have hc : ¬ (b = 46 ∧ s.head? = some 46) := by
        rintro ⟨h1, h2⟩
        apply h0
        cases s with
        | nil => simp at h2
        | cons c s => simp at h2; simp [h1, h2]
      rw [if_neg hc, ih k (fun j hj => by simpa using hno (j + 1) (by omega)) (by simpa using hk) (by simpa using he)]
      rfl
theorem dots_none_of {s : List UInt8} (hno : ∀ j, j + 2 ≤ s.length → (s.drop j).take 2 ≠ [46, 46]) : dotsL s = none := by
  rcases hd : dotsL s with _ | ⟨h, t⟩
  · rfl
  · have hs := dots_len hd
    exact absurd (by rw [hs]; simp) (hno h.length (by rw [hs]; simp))
end Go.Vir


namespace Go.Vir
open Go Go.RowKit Go.Proofs Go.Shelf
attribute [local go_sem] Oper.semAt_some

theorem blankB_iff (b : UInt8) : blankB b = true ↔ (b.toNat : Int) = 32 ∨ (b.toNat : Int) = 9 ∨ (b.toNat : Int) = 13 := by
  have h : blankB b = true ↔ b = 32 ∨ b = 9 ∨ b = 13 := by simp [blankB]
  rw [h]
  constructor
  · rintro (rfl | rfl | rfl) <;> decide
  · rintro (e | e | e)
    · exact .inl (UInt8.toNat.inj (by show b.toNat = 32; omega))
    · exact .inr (.inl (UInt8.toNat.inj (by show b.toNat = 9; omega)))
    · exact .inr (.inr (UInt8.toNat.inj (by show b.toNat = 13; omega)))

theorem ref_blank (b : UInt8) (w : World) : Calls Tryz.prog 166 #[.int .u8 (b.toNat : Int)] w fun e w' => e = .returned (.bool (blankB b)) ∧ w = w' := by
  have hlet := blankB_iff b
  generalize blankB b = V at *
  generalize (b.toNat : Int) = c at *
  have Hlet := Lib.hid hlet
  clear hlet
  go_enter Tryz.func166, Tryz.ntmps166
  go_wp2
  all_goals go_ret
  all_goals refine ⟨ret_bool ?_, rfl⟩
  all_goals (rw [Bool.eq_iff_iff, Hlet.out]; simp; try omega)

def dropR (t : List UInt8) : List UInt8 := (t.reverse.dropWhile blankB).reverse
theorem dropR_cons (b : UInt8) (t : List UInt8) : dropR (b :: t) = if dropR t = [] ∧ blankB b = true then [] else b :: dropR t := by
  unfold dropR
  rw [List.reverse_cons]
  rcases h : t.reverse.dropWhile blankB with _ | ⟨x, r⟩
  · have : (t.reverse ++ [b]).dropWhile blankB = [b].dropWhile blankB := by
      rw [List.dropWhile_append, h]; rfl
    rw [this]
    cases hb : blankB b <;> simp [hb]
  · have : (t.reverse ++ [b]).dropWhile blankB = (x :: r) ++ [b] := by
      rw [List.dropWhile_append, h]; rfl
    rw [this]
    simp
theorem trim_two : ∀ t : List UInt8, trimL t = dropR (t.dropWhile blankB)
  | [] => rfl
  | b :: t => by
    have ih := trim_two t
    have h1 : trimL (b :: t) = (dropR (b :: t)).dropWhile blankB := rfl
    have h2 : trimL t = (dropR t).dropWhile blankB := rfl
    rw [h1, dropR_cons]
    rcases hb : blankB b with _ | _
    · rw [List.dropWhile_cons, hb]
      simp only [Bool.false_eq_true, and_false, if_false]
      rw [List.dropWhile_cons, hb, dropR_cons, hb]
      simp
    · rw [List.dropWhile_cons, hb, if_pos rfl, ← ih, h2]
      by_cases he : dropR t = []
      · rw [if_pos ⟨he, rfl⟩, he]
      · rw [if_neg (fun h => he h.1), List.dropWhile_cons, hb, if_pos rfl]
theorem dropR_snoc (t : List UInt8) (b : UInt8) : dropR (t ++ [b]) = if blankB b = true then dropR t else t ++ [b] := by
  unfold dropR
  rw [List.reverse_append]
  simp only [List.reverse_cons, List.reverse_nil, List.nil_append, List.cons_append, List.dropWhile_cons]
  split
  · rfl
  · simp

theorem text_drop4 (s : List UInt8) (k : Nat) : (⟨s.toArray⟩ : ByteArray).extract k s.length = ⟨(s.drop k).toArray⟩ := by
  rw [text_seg, List.take_of_length_le (by simp)]
theorem text_size (l : List UInt8) : (⟨l.toArray⟩ : ByteArray).size = l.length := by simp [ByteArray.size]
def strLen : Value → Nat
  | .string b => b.size
  | _ => 0

set_option maxRecDepth 100000 in
set_option maxHeartbeats 1600000 in
theorem ref_Trim (s : List UInt8) (w : World) (hs : s.length ≤ 10000000) :
    Calls Tryz.prog 136 #[.string ⟨s.toArray⟩] w fun e w' => e = .returned (.string ⟨(trimL s).toArray⟩) ∧ w = w' := by
  rw [trim_two]
  generalize hV : dropR (s.dropWhile blankB) = V
  have HV := Lib.hid hV
  clear hV
  go_enter Tryz.func136, Tryz.ntmps136
  go_wp2
  go_loop [0] (fun v => ∃ u : List UInt8, v = .string ⟨u.toArray⟩ ∧ u.length ≤ 10000000 ∧ s.dropWhile blankB = u.dropWhile blankB) (fun v => strLen v)
  case atStart => exact ⟨s, rfl, hs, rfl⟩
  case round =>
    obtain ⟨u, rfl, hul, hd⟩ := hrel
    have Hd := Lib.hid hd
    clear hd
    rcases hu : u with _ | ⟨b, t⟩
    · subst hu
      have hfin : s.dropWhile blankB = [] := by rw [Hd.out]; rfl
      have HU := Lib.hid hfin
      clear hfin
      go_wp2
      go_loop [0] (fun v => ∃ q : List UInt8, v = .string ⟨q.toArray⟩ ∧ q.length ≤ 10000000 ∧ dropR ([] : List UInt8) = dropR q) (fun v => strLen v)
      case atStart => exact ⟨([] : List UInt8), rfl, by simp, rfl⟩
      case round =>
        obtain ⟨q, rfl, hql, hd⟩ := hrel
        have Hd := Lib.hid hd
        clear hd
        rcases List.eq_nil_or_concat q with hq | ⟨r, b, hq⟩
        · subst hq
          have hfin : V = [] := by rw [← HV.out, HU.out, Hd.out]; rfl
          have Hf := Lib.hid hfin
          clear hfin
          go_wp2
          go_ret
          exact ⟨by rw [Hf.out]; rfl, rfl⟩
        · have hqe : q.isEmpty = false := by rw [hq]; simp
          have hqn : ¬ q = [] := by rw [hq]; simp
          have hqp : 0 < q.length := by rw [hq]; simp
          have hb0 : q[q.length - 1]'(by omega) = b := by simp [hq]
          have hdr : q.take (q.length - 1) = r := by simp [hq]
          have hst : blankB b = true → dropR ([] : List UInt8) = dropR (q.take (q.length - 1)) := fun h => by rw [Hd.out, hdr, hq, List.concat_eq_append, dropR_snoc, if_pos h]
          have hno : blankB b = false → dropR ([] : List UInt8) = q := fun h => by rw [Hd.out, hq, List.concat_eq_append, dropR_snoc, if_neg (by rw [h]; simp)]
          have hlc := ref_blank b
          have Hb0 := Lib.hid hb0
          have Hlc := Lib.hid hlc
          have Hst := Lib.hid hst
          have Hno := Lib.hid hno
          clear hq hb0 hdr hlc hst hno
          have hq1 : 1 ≤ (q.length : Int) := by omega
          have hq2 : (q.length : Int) - 1 < (q.length : Int) := by omega
          have hq3 : ((q.length : Int) - 1).toNat = q.length - 1 := by omega
          go_wp2_with fail
          simp only [byte_at q (q.length - 1) _ (by omega), Hb0.out]
          refine (Hlc.out _).mono ?_
          rintro e w2 ⟨rfl, rfl⟩
          rcases hb : blankB b with _ | _
          · have hfin : V = q := by rw [← HV.out, HU.out, Hno.out hb]
            have Hf := Lib.hid hfin
            clear hfin hb
            go_wp2_with fail
            go_ret
            exact ⟨by rw [Hf.out]; rfl, rfl⟩
          · have hx := Hst.out hb
            have Hx := Lib.hid hx
            clear hx hb
            go_wp2_with fail
            go_round
            case rel => exact ⟨q.take (q.length - 1), by rw [text_cut], by simp; omega, Hx.out⟩
            case measure =>
              rw [text_cut]
              simp only [strLen, text_size, List.length_take]; omega
    · have hue : u.isEmpty = false := by rw [hu]; rfl
      have hun : ¬ u = [] := by rw [hu]; simp
      have hup : 0 < u.length := by rw [hu]; simp
      have hb0 : u[0] = b := by simp [hu]
      have hdr : u.drop 1 = t := by simp [hu]
      have hlc := ref_blank u[0]
      have hst : blankB b = true → s.dropWhile blankB = (u.drop 1).dropWhile blankB := fun h => by rw [Hd.out, hdr, hu, List.dropWhile_cons, h, if_pos rfl]
      have hno : blankB b = false → s.dropWhile blankB = u := fun h => by rw [Hd.out, hu, List.dropWhile_cons, h]; rfl
      rw [hb0] at hlc
      have Hb0 := Lib.hid hb0
      have Hlc := Lib.hid hlc
      have Hst := Lib.hid hst
      have Hno := Lib.hid hno
      rw [← hu]
      clear hu hb0 hdr hlc hst hno
      go_wp2_with fail
      simp only [byte_at u 0 _ hup, Hb0.out]
      refine (Hlc.out _).mono ?_
      rintro e w1 ⟨rfl, rfl⟩
      rcases hb : blankB b with _ | _
      · have hfin := Hno.out hb
        have HU := Lib.hid hfin
        clear hfin hb
        go_wp2_with fail
        go_loop [0] (fun v => ∃ q : List UInt8, v = .string ⟨q.toArray⟩ ∧ q.length ≤ 10000000 ∧ dropR u = dropR q) (fun v => strLen v)
        case atStart => exact ⟨u, rfl, hul, rfl⟩
        case round =>
          obtain ⟨q, rfl, hql, hd⟩ := hrel
          have Hd := Lib.hid hd
          clear hd
          rcases List.eq_nil_or_concat q with hq | ⟨r, b, hq⟩
          · subst hq
            have hfin : V = [] := by rw [← HV.out, HU.out, Hd.out]; rfl
            have Hf := Lib.hid hfin
            clear hfin
            go_wp2
            go_ret
            exact ⟨by rw [Hf.out]; rfl, rfl⟩
          · have hqe : q.isEmpty = false := by rw [hq]; simp
            have hqn : ¬ q = [] := by rw [hq]; simp
            have hqp : 0 < q.length := by rw [hq]; simp
            have hb0 : q[q.length - 1]'(by omega) = b := by simp [hq]
            have hdr : q.take (q.length - 1) = r := by simp [hq]
            have hst : blankB b = true → dropR u = dropR (q.take (q.length - 1)) := fun h => by rw [Hd.out, hdr, hq, List.concat_eq_append, dropR_snoc, if_pos h]
            have hno : blankB b = false → dropR u = q := fun h => by rw [Hd.out, hq, List.concat_eq_append, dropR_snoc, if_neg (by rw [h]; simp)]
            have hlc := ref_blank b
            have Hb0 := Lib.hid hb0
            have Hlc := Lib.hid hlc
            have Hst := Lib.hid hst
            have Hno := Lib.hid hno
            clear hq hb0 hdr hlc hst hno
            have hq1 : 1 ≤ (q.length : Int) := by omega
            have hq2 : (q.length : Int) - 1 < (q.length : Int) := by omega
            have hq3 : ((q.length : Int) - 1).toNat = q.length - 1 := by omega
            go_wp2_with fail
            simp only [byte_at q (q.length - 1) _ (by omega), Hb0.out]
            refine (Hlc.out _).mono ?_
            rintro e w2 ⟨rfl, rfl⟩
            rcases hb : blankB b with _ | _
            · have hfin : V = q := by rw [← HV.out, HU.out, Hno.out hb]
              have Hf := Lib.hid hfin
              clear hfin hb
              go_wp2_with fail
              go_ret
              exact ⟨by rw [Hf.out]; rfl, rfl⟩
            · have hx := Hst.out hb
              have Hx := Lib.hid hx
              clear hx hb
              go_wp2_with fail
              go_round
              case rel => exact ⟨q.take (q.length - 1), by rw [text_cut], by simp; omega, Hx.out⟩
              case measure =>
                rw [text_cut]
                simp only [strLen, text_size, List.length_take]; omega
      · have hx := Hst.out hb
        have Hx := Lib.hid hx
        clear hx hb
        go_wp2_with fail
        go_round
        case rel => exact ⟨u.drop 1, by rw [text_drop4], by simp; omega, Hx.out⟩
        case measure =>
          rw [text_drop4]
          simp only [strLen, text_size, List.length_drop]; omega
end Go.Vir


namespace Go.Vir
open Go Go.RowKit Go.Proofs Go.Shelf
attribute [local go_sem] Oper.semAt_some

set_option maxHeartbeats 1600000 in
theorem ref_ends (s : List UInt8) (w : World) (hs : s.length ≤ 1000000) :
    Calls Tryz.prog 137 #[.string ⟨s.toArray⟩] w fun e w' => EndsR (endsN s) e ∧ w = w' := by
  obtain ⟨R, hR⟩ : ∃ R, endsN s = R := ⟨_, rfl⟩
  rw [hR]
  have HR := Lib.hid hR
  clear hR
  go_enter Tryz.func137, Tryz.ntmps137
  go_wp2_with fail
  go_loop [5] (fun i => ∃ k : Nat, k ≤ s.length ∧ i = .int .i64 (k : Int) ∧ ∀ j, j < k → (s.drop j).take 2 ≠ [46, 46]) (fun i => s.length - (RowKit.intOf i).toNat)
  case atStart => exact ⟨0, Nat.zero_le _, rfl, fun j hj => absurd hj (by omega)⟩
  case round =>
    obtain ⟨k, hk, rfl, hno⟩ := hrel
    by_cases hlt : k + 2 ≤ s.length
    · have hlt2 : (k : Int) + 2 ≤ (s.length : Int) := by omega
      by_cases he : (s.drop k).take 2 = [46, 46]
      · have hd := dots_here k hno hlt he
        obtain ⟨h1, h2⟩ := ends_two hd
        have hq : (((⟨s.toArray⟩ : ByteArray).extract k (k + 2)).toList == ([46, 46] : List UInt8)) = true := by
          rw [text_seg, show k + 2 - k = 2 by omega, he, Lib.toList_data]; rfl
        have hc1 : ∀ W, Calls Tryz.prog 167 #[.string ((⟨s.toArray⟩ : ByteArray).extract 0 k)] W fun e w' => e = .returned (.tuple #[.int .i64 (codeI (s.take k)), .bool (codeN (s.take k)).isSome]) ∧ W = w' := fun W => by rw [text_cut]; exact ref_Code _ W (by simp; omega)
        have hc2 : ∀ W, Calls Tryz.prog 167 #[.string ((⟨s.toArray⟩ : ByteArray).extract (k + 2) s.length)] W fun e w' => e = .returned (.tuple #[.int .i64 (codeI (s.drop (k + 2))), .bool (codeN (s.drop (k + 2))).isSome]) ∧ W = w' := fun W => by rw [text_drop4]; exact ref_Code _ W (by simp; omega)
        rw [HR.out] at h1 h2
        have H1 := Lib.hid h1
        have H2 := Lib.hid h2
        have Hc1 := Lib.hid hc1
        have Hc2 := Lib.hid hc2
        clear hno he hd h1 h2 hc1 hc2
        generalize (codeN (s.take k)).isSome = ok at *
        generalize codeI (s.take k) = a at *
        generalize (codeN (s.drop (k + 2))).isSome = ok2 at *
        generalize codeI (s.drop (k + 2)) = b at *
        go_wp2_with fail
        refine (Hc1.out _).mono ?_
        rintro e w1 ⟨rfl, rfl⟩
        go_wp2_with fail
        refine (Hc2.out _).mono ?_
        rintro e w2 ⟨rfl, rfl⟩
        rcases ok with _ | _
        · go_wp2_with fail
          go_ret3
          exact ⟨⟨a, b, by rw [H1.out]; rfl, fun x y hxy => ⟨(H2.out x y hxy).1, (H2.out x y hxy).2.1⟩⟩, rfl⟩
        · go_wp2_with fail
          go_ret3
          exact ⟨⟨a, b, by rw [H1.out]; rfl, fun x y hxy => ⟨(H2.out x y hxy).1, (H2.out x y hxy).2.1⟩⟩, rfl⟩
      · have hq : (((⟨s.toArray⟩ : ByteArray).extract k (k + 2)).toList == ([46, 46] : List UInt8)) = false := by
          rw [text_seg, show k + 2 - k = 2 by omega, Lib.toList_data, beq_eq_false_iff_ne]
          simpa using he
        have hno2 : ∀ j, j < k + 1 → (s.drop j).take 2 ≠ [46, 46] := fun j hj => by
          rcases Nat.lt_or_ge j k with h | h
          · exact hno j h
          · obtain rfl : j = k := by omega
            exact he
        have Hno2 := Lib.hid hno2
        clear hno hno2 he
        go_wp2_with fail
        go_round
        case rel => exact ⟨k + 1, by omega, by go_num, Hno2.out⟩
        case measure => simp [RowKit.intOf]; omega
    · have hlt2 : (s.length : Int) < (k : Int) + 2 := by omega
      have hd := dots_none_of (s := s) (fun j hj => hno j (by omega))
      obtain ⟨h1, h2⟩ := ends_one hd
      have hc := fun W => ref_Code s W (by omega)
      rw [HR.out] at h1 h2
      have H1 := Lib.hid h1
      have H2 := Lib.hid h2
      have Hc := Lib.hid hc
      clear hno hd h1 h2 hc hlt
      generalize (codeN s).isSome = ok at *
      generalize codeI s = a at *
      go_wp2_with fail
      refine (Hc.out _).mono ?_
      rintro e w1 ⟨rfl, rfl⟩
      go_wp2_with fail
      go_ret3
      exact ⟨⟨a, a, by rw [H1.out]; rfl, fun x y hxy => ⟨(H2.out x y hxy).1, (H2.out x y hxy).2.1⟩⟩, rfl⟩
end Go.Vir


namespace Go.Vir
open Go Go.RowKit Go.Proofs Go.Shelf
attribute [local go_sem] Oper.semAt_some

theorem own_fresh1 {w : World} {base e n c m : Nat} {A : Option Addr} {xs : List Value} (h : w.ownsRow base e 1 (.slice A n c) m xs) : Fresh base A n := fun hn => by
  rcases h.2 with ⟨h1, _⟩ | ⟨g, cap, cur, h1, h2, _⟩
  · injection h1 with _ h3 _; omega
  · injection h1 with h3 _ _
    exact ⟨g, 0, h3, h2⟩

set_option maxRecDepth 100000 in
set_option maxHeartbeats 1600000 in
theorem field_trimmed (A : Option Addr) (n c : Nat) (ss : List (List UInt8)) (w : World) (hz : Strs w w.heap.size A n ss) (hn : n ≤ 1000000) (hs : ∀ x ∈ ss, x.length ≤ 1000000) :
    Calls Tryz.prog 182 #[.slice A n c] w fun e w' => (∃ A' n' c', e = .returned (.slice A' n' c') ∧ n' ≤ c' ∧ Strs w' w'.heap.size A' n' (ss.map trimL) ∧ Fresh w.heap.size A' n') ∧ Below w.heap.size w w' := by
  obtain ⟨i0, hi0, hz0, hz1, hz2⟩ := info_parts str_info
  have Hlen := Lib.hid hz.len
  have htr := fun (s : List UInt8) (h : s ∈ ss) W => trim_blanks s W (hs s h)
  have Htr := Lib.hid htr
  clear htr hs
  go_enter Tryz.func182, Tryz.ntmps182
  go_wp2
  go_loopw [3, 8] (fun v0 i wr => ∃ (k : Nat) (v : Value), v = v0 ∧ k ≤ n ∧ i = .int .i64 (k : Int) ∧ wr.ownsRow w.heap.size 9 1 v ((ss.take k).map trimL).length (strVs ((ss.take k).map trimL)) ∧ Below w.heap.size w wr) (fun _ i _ => n - (RowKit.intOf i).toNat)
  case atStart => exact ⟨0, _, rfl, Nat.zero_le _, rfl, by simpa [strVs] using World.ownsRow_nil _ _ _ _, Below.refl _ _⟩
  case round =>
    obtain ⟨k, v, rfl, hk, rfl, hown, hbr⟩ := hrel
    rcases Nat.lt_or_ge k n with hlt | hge
    · obtain ⟨zb, zo, rfl, hzb, hzc⟩ := hz.at_ (by omega)
      have hkl : k < ss.length := by rw [Hlen.out]; exact hlt
      have z1 := (cellOf hbr hzb).trans (hzc k hkl)
      have htk : (ss.take (k + 1)).map trimL = (ss.take k).map trimL ++ [trimL ss[k]] := by rw [List.take_succ_eq_append_getElem hkl, List.map_append]; rfl
      have Htk := Lib.hid htk
      have htr := Htr.out ss[k] (List.getElem_mem hkl)
      have Ht1 := Lib.hid htr
      have hll : ((ss.take k).map trimL).length ≤ 1000000 := by simp; omega
      clear hzc htk htr
      generalize ss[k] = s at *
      go_wp2_with fail
      refine (Ht1.out _).mono ?_
      rintro e w4 ⟨rfl, hb4⟩
      have hb5 := hbr.trans (hb4.mono hbr.size)
      have hown1 := (ownsRow_below hown hb4).alloc (.cells #[.string ⟨(trimL s).toArray⟩] 9)
      have Hcs := Lib.hid (cell_one_new w4 (.string ⟨(trimL s).toArray⟩) 9)
      have hbA : Below w.heap.size w (w4.alloc (.cells #[.string ⟨(trimL s).toArray⟩] 9)) := hb5.alloc hb5.size _
      have Hlt := Lib.hid (ownsRow_below hown hb4).lt
      have hbs := hb5.size
      clear hown hbr hb4
      go_wp2_with (at_builtin; refine wpList_append_at _ rfl _ _ 22 rfl w.heap.size 9 i0 (.string ⟨#[]⟩) 1 16 Tryz.underlying22 hi0 hz0 hz1 hz2 rfl (by decide) _ _ _ rfl hown1 ⟨w4.heap.size, 0, none⟩ 1 1 [.string ⟨(trimL s).toArray⟩] rfl rfl Hcs.out (by simp [Value.oneCell']) (by simp only [maxLen]; omega) (by omega) (by simp; omega) ?_; intro v' w5 hown5 hgrow hat)
      have hbr5 : Below w.heap.size w w5 := hbA.grown hgrow (by simp; omega) (fun g hg => (Hlt.out g hg).1)
      have hown6 : w5.ownsRow w.heap.size 9 1 v' ((ss.take (k + 1)).map trimL).length (strVs ((ss.take (k + 1)).map trimL)) := by
        rw [Htk.out, List.length_append]
        simpa [strVs] using hown5
      go_roundw
      case rel => exact ⟨k + 1, _, rfl, by omega, by go_num, hown6, hbr5⟩
      case measure => simp [RowKit.intOf]; omega
    · rw [List.take_of_length_le (by rw [Hlen.out]; exact hge)] at hown
      obtain ⟨A', n', c', rfl, hn', hnc', hS⟩ := slice_own hown
      have HS := Lib.hid hS
      have hfr := own_fresh1 hown
      have Hfr := Lib.hid hfr
      clear hS hown hn' hfr
      go_wp2_with fail
      go_ret
      exact ⟨⟨A', n', c', rfl, hnc', HS.out, Hfr.out⟩, hbr⟩

theorem Strs.tail {w : World} {B b o n : Nat} {l : List (List UInt8)} (h : Strs w B (some ⟨b, o, none⟩) n l) (hn : 0 < n) : Strs w B (some ⟨b, o + 1, none⟩) (n - 1) l.tail := by
  have hl := h.len
  refine ⟨by rw [List.length_tail, hl], fun _ => ?_⟩
  obtain ⟨b', o', e, hb, hc⟩ := h.at_ hn
  obtain ⟨rfl, rfl⟩ : b = b' ∧ o = o' := by simpa using e
  refine ⟨b, o + 1, rfl, hb, fun j hj => ?_⟩
  rw [List.length_tail] at hj
  have := hc (j + 1) (by omega)
  rw [show o + (j + 1) = o + 1 + j by omega] at this
  rw [List.getElem_tail]
  exact this
theorem Fresh.tail {B0 b o n : Nat} (h : Fresh B0 (some ⟨b, o, none⟩) n) (hn : 0 < n) (m : Nat) : Fresh B0 (some ⟨b, o + 1, none⟩) m := fun _ => by
  obtain ⟨b', o', e, hb⟩ := h hn
  obtain ⟨rfl, rfl⟩ : b = b' ∧ o = o' := by simpa using e
  exact ⟨b, o + 1, rfl, hb⟩
def RecEnd (B0 : Nat) (r : LineR) (e : Ending) (w' : World) : Prop := match r with
  | .none => e = .returned (.tuple #[.pointer none, .nilIface])
  | .bad why => e = .returned (.tuple #[.pointer none, .iface 215 (.agg #[.int .i64 why])])
  | .rcd a b fs => ∃ rb A n c, e = .returned (.tuple #[.pointer (some ⟨rb, 0, none⟩), .nilIface]) ∧ w'.heap[rb]? = some (.cells #[.int .i64 0, .int .i64 (a : Int), .int .i64 (b : Int), .slice A n c] 82 (0, 0)) ∧ Strs w' rb A n fs ∧ n ≤ c ∧ Fresh B0 A n ∧ B0 ≤ rb

theorem run_toInt (a : Nat) (h : a < 16777216) (W : World) : (convert 250 3 (.float .f64 (FF a))).run Tryz.prog W = .ok (.int .i64 (a : Int)) W := by
  refine run_convert_float_int W 250 3 .f64 .i64 (FF a) (a : Int) (by kernel_rfl) Tryz.underlying3 ?_
  unfold floatToIntVal
  rw [toInt_FF a h]
  simp only
  rw [if_pos ⟨by show (-9223372036854775808 : Int) ≤ _; omega, by show _ ≤ (9223372036854775807 : Int); omega⟩]

set_option maxRecDepth 100000 in
set_option maxHeartbeats 3200000 in
theorem field_record (s : List UInt8) (w : World) (hG : ∃ m, w.cell? ⟨9, 0, none⟩ = some (.int .i64 m)) (hgl : 9 < w.heap.size) (hs : s.length ≤ 100000) :
    Calls Tryz.prog 172 #[.string ⟨s.toArray⟩] w fun e w' => RecEnd w.heap.size (lineN s) e w' ∧ Below w.heap.size w w' := by
  obtain ⟨mm, hmm⟩ := hG
  have Hmm := Lib.hid hmm
  have hcut := Tryz.strings_Cut ⟨s.toArray⟩ ⟨#[35]⟩ mm w (by have := Lib.size_eq ⟨s.toArray⟩; simp at this ⊢; omega) hmm
  have he : (Lib.cut (⟨s.toArray⟩ : ByteArray).data.toList (⟨#[35]⟩ : ByteArray).data.toList).1 = hashL s := by
    rw [show (⟨s.toArray⟩ : ByteArray).data.toList = s by simp]; exact cut_hash s
  rw [he] at hcut
  generalize (Lib.cut (⟨s.toArray⟩ : ByteArray).data.toList (⟨#[35]⟩ : ByteArray).data.toList).2 = c2 at hcut
  have htr := fun W => trim_blanks (hashL s) W (by have := hash_len s; omega)
  have htl : (trimL (hashL s)).length ≤ 100000 := by have := trimL_len (hashL s); have := hash_len s; omega
  obtain ⟨L, hL⟩ : ∃ L, lineN s = L := ⟨_, rfl⟩
  rw [hL]
  unfold lineN at hL
  generalize trimL (hashL s) = u at htr htl hL
  have HL := Lib.hid hL
  have Htr := Lib.hid htr
  have Hcut := Lib.hid hcut
  clear hL htr hcut he
  go_enter Tryz.func172, Tryz.ntmps172
  go_wp2_with fail
  refine wp_scope_once ?_
  generalize hQl : landed _ _ _ = Ql
  go_wp2_with fail
  refine Hcut.out.mono ?_
  rintro e w1 ⟨rfl, q, rfl⟩
  go_wp2_with fail
  refine (Htr.out _).mono ?_
  rintro e w2 ⟨rfl, hb2⟩
  have hb3 := (below_drewN w.heap.size w q).trans hb2
  have hm2 := (cellOf hb3 hgl).trans hmm
  clear hb2 hmm
  by_cases hu : u = []
  · have hl : L = .none := by rw [← HL.out, if_pos hu]
    have Hl := Lib.hid hl
    subst hu
    clear hl
    go_wp2_with fail
    subst hQl
    rw [landed_ret]
    go_ret2
    exact ⟨by rw [Hl.out]; rfl, hb3⟩
  · have hue : u.isEmpty = false := by cases u with | nil => exact absurd rfl hu | cons a b => rfl
    have hL2 := HL.out
    rw [if_neg hu] at hL2
    have hne : (splitL 59 u).map trimL ≠ [] := by
      have := splitL_ne 59 u
      simpa using this
    have hsp := split_by 59 u mm w2 (by omega) hm2
    have hmem : ∀ x ∈ splitL 59 u, x.length ≤ 100000 := fun x hx => by have := (splitL_mem 59 u x hx).1; omega
    have hsl := splitL_length 59 u
    have hlm : ∀ x ∈ (splitL 59 u).map trimL, x.length ≤ 100000 := fun x hx => by
      obtain ⟨y, hy, rfl⟩ := List.mem_map.1 hx
      have := hmem y hy
      have := trimL_len y
      omega
    have htm := fun A n (hn : n ≤ 1000000) c W (hz : Strs W W.heap.size A n (splitL 59 u)) => field_trimmed A n c (splitL 59 u) W hz hn (fun x hx => by have := hmem x hx; omega)
    have hln : ∀ A n B W, Strs W B A n (splitL 59 u) → n ≤ 100001 := fun A n B W h => by have := h.len; omega
    generalize (splitL 59 u).map trimL = l at *
    generalize splitL 59 u = l0 at *
    have Hsp := Lib.hid hsp
    have Htm := Lib.hid htm
    have HL2 := Lib.hid hL2
    have Hln := Lib.hid hln
    have h0l : 0 < l.length := by cases l with | nil => exact absurd rfl hne | cons a b => simp
    have hh0 : l.headD [] = l[0] := by cases l with | nil => exact absurd rfl hne | cons a b => rfl
    have hl0 := hlm l[0] (List.getElem_mem h0l)
    have hen := fun W hW => field_ends l[0] W hW (by omega)
    have Hen := Lib.hid hen
    have Hh0 := Lib.hid hh0
    clear hsp htm hL2 hln hmem hsl hlm hne hen hh0 HL hm2
    go_wp2_with fail
    refine Hsp.out.mono ?_
    rintro e w3 ⟨A3, n3, rfl, hS3, hb4⟩
    have hn3 := Hln.out _ _ _ _ hS3
    have hb5 := hb3.trans (hb4.mono hb3.size)
    go_wp2_with fail
    refine (Htm.out _ _ (by omega) _ _ hS3).mono ?_
    rintro e w4 ⟨⟨A4, n4, c4, rfl, hnc4, hS4, hf4⟩, hb6⟩
    have hb7 := hb5.trans (hb6.mono hb5.size)
    have hlen4 := hS4.len
    have hn4 : 0 < n4 := by omega
    obtain ⟨b4, o4, rfl, hb4l, hc4⟩ := hS4.at_ hn4
    have z0 := hc4 0 h0l
    simp only [Nat.add_zero] at z0
    have hS4' := hS4
    have hf4' : Fresh w.heap.size (some ⟨b4, o4, none⟩) n4 := hf4.less hb5.size
    clear hc4 hS3 hS4 hf4 hb4 hb6 Hsp Htm Hln
    have HS4 := Lib.hid hS4'
    have Hf4 := Lib.hid hf4'
    have Hlen4 := Lib.hid hlen4
    clear hS4' hf4' hlen4
    have hme := Hen.out w4 ⟨mm, (cellOf hb7 hgl).trans Hmm.out⟩
    have Hme := Lib.hid hme
    clear hme Hen
    have hb4l' := hb4l
    go_wp2_with fail
    refine Hme.out.mono ?_
    rintro e w5 ⟨⟨a, b, rfl, hab⟩, hb8⟩
    have hb9 := hb7.trans (hb8.mono hb7.size)
    have hL3 := HL2.out
    rw [Hh0.out] at hL3
    clear z0 HL2 Hh0 Hme
    rcases hen : endsN l[0] with _ | ⟨x, y⟩
    · rw [hen] at hL3
      simp only at hL3
      have HL3 := Lib.hid hL3
      clear hL3 hen hab
      simp only [Option.isSome_none]
      go_wp2_with fail
      go_step3
      go_simp
      subst hQl
      refine landed_goto (by rfl) ?_
      go_wp2_with fail
      try rw [Exit.noGoto_ret]
      go_ret2
      exact ⟨by rw [← HL3.out]; rfl, hb9⟩
    · have hlt := endsN_lt hen
      rw [hen] at hL3 hab
      simp only at hL3
      obtain ⟨rfl, rfl⟩ := hab x y rfl
      have HL3 := Lib.hid hL3
      obtain ⟨hx, hy⟩ := hlt
      have h1 := lt_FF b a hy hx
      have h2 := gt_FF b 1114111 hy (by omega)
      rw [FF_max] at h2
      clear hL3 hen hab
      simp only [Option.isSome_some]
      rcases (by omega : b < a ∨ (¬ b < a ∧ 1114111 < b) ∨ (¬ b < a ∧ ¬ 1114111 < b)) with hc | ⟨hc, hc'⟩ | ⟨hc, hc'⟩
      · have hL4 := HL3.out
        rw [if_pos (.inl hc)] at hL4
        have HL4 := Lib.hid hL4
        rw [decide_eq_true hc] at h1
        clear hL4 HL3 h2
        go_wp2_with fail
        go_step3
        go_simp
        subst hQl
        refine landed_goto (by rfl) ?_
        go_wp2_with fail
        try rw [Exit.noGoto_ret]
        go_ret2
        exact ⟨by rw [← HL4.out]; rfl, hb9⟩
      · have hL4 := HL3.out
        rw [if_pos (.inr hc')] at hL4
        have HL4 := Lib.hid hL4
        rw [decide_eq_false hc] at h1
        rw [decide_eq_true hc'] at h2
        clear hL4 HL3
        go_wp2_with fail
        go_step3
        go_simp
        subst hQl
        refine landed_goto (by rfl) ?_
        go_wp2_with fail
        try rw [Exit.noGoto_ret]
        go_ret2
        exact ⟨by rw [← HL4.out]; rfl, hb9⟩
      · have hL4 := HL3.out
        rw [if_neg (by omega)] at hL4
        rw [decide_eq_false hc] at h1
        rw [decide_eq_false hc'] at h2
        have hnl : n4 = l.length := Hlen4.out.symm
        rcases (by omega : l.length < 2 ∨ (¬ l.length < 2 ∧ 21 < l.length) ∨ (¬ l.length < 2 ∧ ¬ 21 < l.length)) with hd | ⟨hd, hd'⟩ | ⟨hd, hd'⟩
        · rw [if_pos (.inl hd)] at hL4
          have HL4 := Lib.hid hL4
          have hd2 : n4 < 2 := by omega
          clear hL4 HL3 hnl
          go_wp2_with fail
          go_step3
          go_simp
          subst hQl
          refine landed_goto (by rfl) ?_
          go_wp2_with fail
          try rw [Exit.noGoto_ret]
          go_ret2
          exact ⟨by rw [← HL4.out]; rfl, hb9⟩
        · rw [if_pos (.inr hd')] at hL4
          have HL4 := Lib.hid hL4
          have hd2 : ¬ n4 < 2 := by omega
          have hd3 : 21 < n4 := by omega
          clear hL4 HL3 hnl
          go_wp2_with fail
          go_step3
          go_simp
          subst hQl
          refine landed_goto (by rfl) ?_
          go_wp2_with fail
          try rw [Exit.noGoto_ret]
          go_ret2
          exact ⟨by rw [← HL4.out]; rfl, hb9⟩
        · rw [if_neg (by omega)] at hL4
          have HL4 := Lib.hid hL4
          have hd2 : ¬ n4 < 2 := by omega
          have hd3 : ¬ 21 < n4 := by omega
          have hc1 : ¬ c4 = 1 := by omega
          have hc2 : 1 ≤ n4 := by omega
          have hcv1 := run_toInt a hx
          have hcv2 := run_toInt b hy
          clear hL4 HL3 hnl
          go_wp2_with fail
          subst hQl
          rw [landed_ret]
          go_ret2
          rw [← HL4.out]
          refine ⟨⟨w5.heap.size, some ⟨b4, o4 + 1, none⟩, n4 - 1, c4 - 1, rfl, heap_new rfl, ?_, by omega, ?_, hb9.size⟩, hb9.alloc hb9.size _⟩
          · exact (((HS4.out.tail hn4).below hb8).more hb8.size).below ((Below.refl _ w5).alloc (Nat.le_refl _) _)
          · exact Hf4.out.tail hn4 _
end Go.Vir


namespace Go.Vir
open Go Go.RowKit Go.Proofs Go.Shelf
attribute [local go_sem] Oper.semAt_some

set_option maxRecDepth 100000 in
set_option maxHeartbeats 1600000 in
theorem ref_SplitO (s : List UInt8) (c : UInt8) (w : World) (hs : s.length ≤ 10000000) :
    Calls Tryz.prog 88 #[.string ⟨s.toArray⟩, .int .u8 (c.toNat : Int)] w fun e w' => ∃ A n d, e = .returned (.slice A n d) ∧ n ≤ d ∧ w'.ownsRow w.heap.size 9 1 (.slice A n d) (splitL c s).length (strVs (splitL c s)) ∧ n = (splitL c s).length ∧ Below w.heap.size w w' := by
  obtain ⟨i0, hi0, hz0, hz1, hz2⟩ := info_parts str_info
  go_enter Tryz.func88, Tryz.ntmps88
  go_wp2
  go_loopw [5, 6, 7] (fun v0 fv i wr => ∃ (k f : Nat) (v : Value) (L : List (List UInt8)), v = v0 ∧ k ≤ s.length + 1 ∧ i = .int .i64 (k : Int) ∧ fv = .int .i64 (f : Int) ∧ wr.ownsRow w.heap.size 9 1 v L.length (strVs L) ∧ Below w.heap.size w wr ∧ L.length ≤ k ∧
      ((k ≤ s.length ∧ f ≤ k ∧ c ∉ (s.drop f).take (k - f) ∧ splitL c s = L ++ splitL c (s.drop f)) ∨ (k = s.length + 1 ∧ L = splitL c s))) (fun _ _ i _ => s.length + 1 - (RowKit.intOf i).toNat)
  case atStart => exact ⟨0, 0, _, [], rfl, by omega, rfl, rfl, World.ownsRow_nil _ _ _ _, Below.refl _ _, by simp, .inl ⟨by omega, by omega, by simp, by simp⟩⟩
  case round =>
    obtain ⟨k, f, v, L, rfl, hk, rfl, rfl, hown, hbr, hLk, hst⟩ := hrel
    rcases hst with ⟨hks, hfk, hno, hsp⟩ | ⟨hks, hL⟩
    · rcases Nat.lt_or_ge k s.length with hlt | hge
      · rcases hcb : decide (s[k] = c) with _ | _
        · have hne : s[k] ≠ c := of_decide_eq_false hcb
          have hne2 : (((s[k]).toNat : Int) == (c.toNat : Int)) = false := by
            rw [beq_eq_false_iff_ne]; intro h; exact hne (UInt8.toNat.inj (by omega))
          have hno2 := seg_miss hfk hlt hno hne
          have hkb : ((k : Int) == (s.length : Int)) = false := by rw [beq_eq_false_iff_ne]; omega
          have Hno2 := Lib.hid hno2
          have Hsp := Lib.hid hsp
          have hne3 : (((⟨s.toArray⟩ : ByteArray)[k]'hlt).toNat : Int) = (s[k].toNat : Int) := rfl
          clear hcb hne hno hno2 hsp
          go_wp2_with fail
          go_roundw
          case rel => exact ⟨k + 1, f, _, L, rfl, by omega, by go_num, rfl, hown, hbr, by omega, .inl ⟨by omega, by omega, Hno2.out, Hsp.out⟩⟩
          case measure => simp [RowKit.intOf]; omega
        · have hce : s[k] = c := of_decide_eq_true hcb
          have hne2 : (((s[k]).toNat : Int) == (c.toNat : Int)) = true := by rw [hce]; simp
          have hne3 : (((⟨s.toArray⟩ : ByteArray)[k]'hlt).toNat : Int) = (s[k].toNat : Int) := rfl
          have hkb : ((k : Int) == (s.length : Int)) = false := by rw [beq_eq_false_iff_ne]; omega
          have hsp2 : splitL c s = (L ++ [(s.drop f).take (k - f)]) ++ splitL c (s.drop (k + 1)) := by rw [hsp, split_more hfk hlt hno hce]; simp
          have Hsp := Lib.hid hsp2
          clear hcb hce hno hsp hsp2
          have hown1 := hown.alloc (.cells #[.string ((⟨s.toArray⟩ : ByteArray).extract f k)] 9)
          have Hcs := Lib.hid (cell_one_new wr (.string ((⟨s.toArray⟩ : ByteArray).extract f k)) 9)
          have hbrA : Below w.heap.size w (wr.alloc (.cells #[.string ((⟨s.toArray⟩ : ByteArray).extract f k)] 9)) := hbr.alloc hbr.size _
          have Hlt := Lib.hid hown.lt
          have hbs := hbr.size
          clear hown hbr
          go_wp2_with (at_builtin; refine wpList_append_at _ rfl _ _ 22 rfl w.heap.size 9 i0 (.string ⟨#[]⟩) 1 16 Tryz.underlying22 hi0 hz0 hz1 hz2 rfl (by decide) _ _ _ rfl hown1 ⟨wr.heap.size, 0, none⟩ 1 1 [.string ((⟨s.toArray⟩ : ByteArray).extract f k)] rfl rfl Hcs.out (by simp [Value.oneCell']) (by simp only [maxLen]; omega) (by omega) (by simp; omega) ?_; intro v' w5 hown5 hgrow hat)
          have hbr5 : Below w.heap.size w w5 := hbrA.grown hgrow (by simp; omega) (fun g hg => (Hlt.out g hg).1)
          have hown6 : w5.ownsRow w.heap.size 9 1 v' (L ++ [(s.drop f).take (k - f)]).length (strVs (L ++ [(s.drop f).take (k - f)])) := by
            rw [text_seg] at hown5
            simpa [strVs] using hown5
          go_roundw
          case rel => exact ⟨k + 1, k + 1, _, _, rfl, by omega, by go_num, by go_num, hown6, hbr5, by simp; omega, .inl ⟨by omega, by omega, by simp, Hsp.out⟩⟩
          case measure => simp [RowKit.intOf]; omega
      · have hkl : k = s.length := by omega
        have hsp2 : splitL c s = L ++ [(s.drop f).take (s.length - f)] := by rw [hsp, split_none hfk hkl hno, hkl]
        have Hsp := Lib.hid hsp2
        have hke : ((k : Int) == (s.length : Int)) = true := by rw [beq_iff_eq]; omega
        clear hno hsp hsp2
        subst hkl
        have hown1 := hown.alloc (.cells #[.string ((⟨s.toArray⟩ : ByteArray).extract f s.length)] 9)
        have Hcs := Lib.hid (cell_one_new wr (.string ((⟨s.toArray⟩ : ByteArray).extract f s.length)) 9)
        have hbrA : Below w.heap.size w (wr.alloc (.cells #[.string ((⟨s.toArray⟩ : ByteArray).extract f s.length)] 9)) := hbr.alloc hbr.size _
        have Hlt := Lib.hid hown.lt
        have hbs := hbr.size
        clear hown hbr
        go_wp2_with (at_builtin; refine wpList_append_at _ rfl _ _ 22 rfl w.heap.size 9 i0 (.string ⟨#[]⟩) 1 16 Tryz.underlying22 hi0 hz0 hz1 hz2 rfl (by decide) _ _ _ rfl hown1 ⟨wr.heap.size, 0, none⟩ 1 1 [.string ((⟨s.toArray⟩ : ByteArray).extract f s.length)] rfl rfl Hcs.out (by simp [Value.oneCell']) (by simp only [maxLen]; omega) (by omega) (by simp; omega) ?_; intro v' w5 hown5 hgrow hat)
        have hbr5 : Below w.heap.size w w5 := hbrA.grown hgrow (by simp; omega) (fun g hg => (Hlt.out g hg).1)
        have hown6 : w5.ownsRow w.heap.size 9 1 v' (L ++ [(s.drop f).take (s.length - f)]).length (strVs (L ++ [(s.drop f).take (s.length - f)])) := by
          rw [text_seg] at hown5
          simpa [strVs] using hown5
        go_roundw
        case rel => exact ⟨s.length + 1, s.length + 1, _, _, rfl, by omega, by go_num, by go_num, hown6, hbr5, by simp; omega, .inr ⟨rfl, Hsp.out.symm⟩⟩
        case measure => simp [RowKit.intOf]
    · subst hks
      rw [hL] at hown
      have HO := Lib.hid hown
      obtain ⟨A', n', c', rfl, hn', hnc', hS⟩ := slice_own hown
      have Hn := Lib.hid hn'
      clear hS hown hL hn'
      go_wp2_with fail
      go_ret
      exact ⟨A', n', c', rfl, hnc', HO.out, Hn.out, hbr⟩
end Go.Vir


namespace Go.Vir
open Go Go.RowKit Go.Proofs Go.Shelf
attribute [local go_sem] Oper.semAt_some

theorem split_hash : ∀ t : List UInt8, ∃ r, splitL 35 t = hashL t :: r
  | [] => ⟨[], rfl⟩
  | b :: t => by
    obtain ⟨r, h⟩ := split_hash t
    unfold splitL
    by_cases hb : b = 35
    · rw [if_pos hb]
      exact ⟨_, by subst hb; rfl⟩
    · rw [if_neg hb, h]
      refine ⟨r, ?_⟩
      have : (b != 35) = true := by simpa using hb
      simp only [hashL, List.takeWhile_cons, this, if_true]

abbrev zeroC : Array Value := #[.int .i64 0, .int .i64 0, .int .i64 0, .slice none 0 0]
theorem set4_cells {w : World} {g : Nat} {a b c d : Value} {t : TypeId} (h : w.heap[g]? = some (.cells #[a, b, c, d] t (0, 0))) (x y z u : Value) :
    let W := (((w.setCell ⟨g, 0, none⟩ x).setCell ⟨g, 1, none⟩ y).setCell ⟨g, 2, none⟩ z).setCell ⟨g, 3, none⟩ u
    W.cell? ⟨g, 0, none⟩ = some x ∧ W.cell? ⟨g, 1, none⟩ = some y ∧ W.cell? ⟨g, 2, none⟩ = some z ∧ W.cell? ⟨g, 3, none⟩ = some u := by
  have h5 := setCell_blk (setCell_blk (setCell_blk (setCell_blk h 0 x) 1 y) 2 z) 3 u
  exact ⟨cell_blk h5 0, cell_blk h5 1, cell_blk h5 2, cell_blk h5 3⟩
theorem below_set4 {B : Nat} {w0 w : World} {g : Nat} (h : Below B w0 w) (hg : B ≤ g) (x y z u : Value) :
    Below B w0 ((((w.setCell ⟨g, 0, none⟩ x).setCell ⟨g, 1, none⟩ y).setCell ⟨g, 2, none⟩ z).setCell ⟨g, 3, none⟩ u) :=
  (((h.setCell (p := ⟨g, 0, none⟩) hg x).setCell (p := ⟨g, 1, none⟩) hg y).setCell (p := ⟨g, 2, none⟩) hg z).setCell (p := ⟨g, 3, none⟩) hg u
theorem heap_set4 {w : World} {g k : Nat} (h : k ≠ g) (x y z u : Value) :
    ((((w.setCell ⟨g, 0, none⟩ x).setCell ⟨g, 1, none⟩ y).setCell ⟨g, 2, none⟩ z).setCell ⟨g, 3, none⟩ u).heap[k]? = w.heap[k]? := by
  rw [Below.heap_setCell _ _ _ _ h, Below.heap_setCell _ _ _ _ h, Below.heap_setCell _ _ _ _ h, Below.heap_setCell _ _ _ _ h]

def LineE (B0 : Nat) (r : LineR) (e : Ending) (w' : World) : Prop := match r with
  | .none => e = .returned (.tuple #[.agg zeroC, .bool false, .int .i64 0])
  | .bad why => e = .returned (.tuple #[.agg zeroC, .bool false, .int .i64 why])
  | .rcd a b fs => ∃ A n c, e = .returned (.tuple #[.agg #[.int .i64 0, .int .i64 (a : Int), .int .i64 (b : Int), .slice A n c], .bool true, .int .i64 0]) ∧ Strs w' w'.heap.size A n fs ∧ n ≤ c ∧ Fresh B0 A n

def mixL (l : List (List UInt8)) (k : Nat) : List (List UInt8) := (l.take k).map trimL ++ l.drop k
theorem mix_get {l : List (List UInt8)} {k : Nat} (h : k < l.length) : (mixL l k)[k]? = some l[k] := by
  unfold mixL
  rw [List.getElem?_append_right (by simp; omega)]
  simp [Nat.min_eq_left (Nat.le_of_lt h), h]
theorem mix_set {l : List (List UInt8)} {k : Nat} (h : k < l.length) : (mixL l k).set k (trimL l[k]) = mixL l (k + 1) := by
  unfold mixL
  rw [List.set_append_right _ _ (by simp; omega), List.take_succ_eq_append_getElem h, List.map_append, List.append_assoc]
  congr 1
  have : k - ((l.take k).map trimL).length = 0 := by simp; omega
  rw [this, List.drop_eq_getElem_cons h]
  rfl
structure MixRow (w : World) (g n cap : Nat) (l : List (List UInt8)) (k : Nat) : Prop where
  row : ∃ cur : Array Value, w.heap[g]? = some (.cells cur 9 (0, 0)) ∧ cur.size = cap ∧ cur.toList.take n = strVs (mixL l k)
theorem MixRow.get {w : World} {g n cap k : Nat} {l : List (List UInt8)} (h : MixRow w g n cap l k) (hn : n = l.length) (hk : k < n) : w.cell? ⟨g, k, none⟩ = some (.string ⟨(l[k]'(by omega)).toArray⟩) ∧ w.frozen? ⟨g, k, none⟩ = false := by
  obtain ⟨cur, h1, h2, h3⟩ := h.row
  refine ⟨?_, frozen_blk h1 k⟩
  rw [cell_blk h1]
  have h4 : (cur.toList.take n)[k]? = some (.string ⟨(l[k]'(by omega)).toArray⟩) := by
    rw [h3, strVs, List.getElem?_map, mix_get (by omega)]; rfl
  rw [List.getElem?_take, if_pos hk] at h4
  simpa using h4
theorem MixRow.step {w : World} {g n cap k : Nat} {l : List (List UInt8)} (h : MixRow w g n cap l k) (hn : n = l.length) (hk : k < n) : MixRow (w.setCell ⟨g, k, none⟩ (.string ⟨(trimL (l[k]'(by omega))).toArray⟩)) g n cap l (k + 1) := by
  obtain ⟨cur, h1, h2, h3⟩ := h.row
  refine ⟨_, setCell_blk h1 k _, by simpa using h2, ?_⟩
  rw [Array.toList_setIfInBounds, List.take_set, h3, ← mix_set (by omega)]
  unfold strVs
  rw [List.map_set]
theorem MixRow.below {w w' : World} {g n cap k : Nat} {l : List (List UInt8)} (h : MixRow w g n cap l k) (hb : w'.heap[g]? = w.heap[g]?) : MixRow w' g n cap l k := by
  obtain ⟨cur, h1, h2, h3⟩ := h.row
  exact ⟨cur, hb.trans h1, h2, h3⟩
theorem MixRow.strs {w : World} {g n cap : Nat} {l : List (List UInt8)} (h : MixRow w g n cap l n) (hn : n = l.length) : Strs w w.heap.size (some ⟨g, 0, none⟩) n (l.map trimL) := by
  obtain ⟨cur, h1, h2, h3⟩ := h.row
  have hm : mixL l n = l.map trimL := by unfold mixL; rw [hn]; simp
  rw [hm] at h3
  refine ⟨by simp [hn], fun _ => ⟨g, 0, rfl, (Array.getElem?_eq_some_iff.1 h1).1, fun j hj => ?_⟩⟩
  rw [cell_blk h1, Nat.zero_add]
  have h4 : (cur.toList.take n)[j]? = some (.string ⟨(l.map trimL)[j].toArray⟩) := by
    rw [h3, strVs, List.getElem?_map, List.getElem?_eq_getElem hj]; rfl
  rw [List.getElem?_take] at h4
  split at h4
  · simpa using h4
  · cases h4

theorem strs_set4 {w : World} {B g b o n : Nat} {l : List (List UInt8)} (h : Strs w B (some ⟨b, o, none⟩) n l) (hne : b ≠ g) (x y z u : Value) :
    Strs ((((w.setCell ⟨g, 0, none⟩ x).setCell ⟨g, 1, none⟩ y).setCell ⟨g, 2, none⟩ z).setCell ⟨g, 3, none⟩ u) B (some ⟨b, o, none⟩) n l :=
  ⟨h.len, fun hn => by
    obtain ⟨b', o', e, hb, hc⟩ := h.at_ hn
    obtain ⟨rfl, rfl⟩ : b = b' ∧ o = o' := by simpa using e
    exact ⟨b, o, rfl, hb, fun j hj => (World.cell?_of_block (a := ⟨b, o + j, none⟩) (heap_set4 hne _ _ _ _)).trans (hc j hj)⟩⟩

set_option maxRecDepth 100000 in
set_option maxHeartbeats 3200000 in
theorem ref_Line (s : List UInt8) (w : World) (hs : s.length ≤ 100000) :
    Calls Tryz.prog 89 #[.string ⟨s.toArray⟩] w fun e w' => LineE w.heap.size (lineN s) e w' ∧ Below w.heap.size w w' := by
  have htl : (trimL (hashL s)).length ≤ 100000 := by have := trimL_len (hashL s); have := hash_len s; omega
  have htr := fun W => ref_Trim (hashL s) W (by have := hash_len s; omega)
  obtain ⟨L, hL⟩ : ∃ L, lineN s = L := ⟨_, rfl⟩
  rw [hL]
  unfold lineN at hL
  generalize hu : trimL (hashL s) = u at htr htl hL
  have HL := Lib.hid hL
  have Htr := Lib.hid htr
  clear hL htr hu
  have z0 : (w.alloc (.cells zeroC 82)).heap[w.heap.size]? = some (.cells zeroC 82 (0, 0)) := heap_new rfl
  have hb0 : Below w.heap.size w (w.alloc (.cells zeroC 82)) := by go_grown
  go_enter Tryz.func89, Tryz.ntmps89
  go_wp2_with fail
  refine (ref_Split s 35 _ (by omega)).mono ?_
  rintro e w1 ⟨A1, n1, d1, rfl, hnd1, hS1, hb1⟩
  obtain ⟨r1, hr1⟩ := split_hash s
  rw [hr1] at hS1
  have hn1 : 0 < n1 := by have := hS1.len; simp at this; omega
  obtain ⟨qb, qo, rfl, hqb, hqc⟩ := hS1.at_ hn1
  have q1 := hqc 0 (by simp)
  simp only [List.getElem_cons_zero, Nat.add_zero] at q1
  have z1 := (hb1.block _ (Array.getElem?_eq_some_iff.1 z0).1).trans z0
  have hb2 : Below w.heap.size w w1 := hb0.trans (hb1.mono hb0.size)
  clear hqc hS1 hr1 z0 hb0 hb1
  go_wp2_with fail
  refine (Htr.out _).mono ?_
  rintro e w2 ⟨rfl, rfl⟩
  clear q1 Htr
  by_cases hu : u = []
  · have hl : L = .none := by rw [← HL.out, if_pos hu]
    have Hl := Lib.hid hl
    subst hu
    have f0 := frozen_blk z1 0
    have f1 := frozen_blk z1 1
    have f2 := frozen_blk z1 2
    have f3 := frozen_blk z1 3
    have k0 := cell_blk z1 0
    have k1 := cell_blk z1 1
    have k2 := cell_blk z1 2
    have k3 := cell_blk z1 3
    simp only [zeroC, List.getElem?_toArray, List.getElem?_cons_zero, List.getElem?_cons_succ] at k0 k1 k2 k3
    clear hl
    go_wp2_with fail
    obtain ⟨q0, q1, q2, q3⟩ := set4_cells z1 (.int .i64 0) (.int .i64 0) (.int .i64 0) (.slice none 0 0)
    refine bodyPost_ret (v := .tuple #[.agg zeroC, .bool false, .int .i64 0]) (by simp [results, Tryz.results89, go_sem, q0, q1, q2, q3]) rfl ⟨?_, below_set4 hb2 (Nat.le_refl _) _ _ _ _⟩
    rw [Hl.out]
    rfl
  · have hue : u.isEmpty = false := by cases u with | nil => exact absurd rfl hu | cons a b => rfl
    have hL2 := HL.out
    rw [if_neg hu] at hL2
    have hne := splitL_ne 59 u
    have hmem : ∀ x ∈ splitL 59 u, x.length ≤ 100000 := fun x hx => by have := (splitL_mem 59 u x hx).1; omega
    have hsl := splitL_length 59 u
    have hsp := ref_SplitO u 59 w1 (by omega)
    generalize splitL 59 u = l at *
    have HL2 := Lib.hid hL2
    have Hsp := Lib.hid hsp
    have Hmem := Lib.hid hmem
    have h0l : 0 < l.length := by cases l with | nil => exact absurd rfl hne | cons a b => simp
    clear hsp hL2 hmem hne HL
    go_wp2_with fail
    refine Hsp.out.mono ?_
    rintro e w3 ⟨A3, n3, d3, rfl, hnd3, hO3, hn3, hb3⟩
    obtain ⟨g, cap, cur, hA, hge, hgb, hnc, _, hsz, htk⟩ : ∃ g cap cur, Value.slice A3 n3 d3 = .slice (some ⟨g, 0, none⟩) l.length cap ∧ w1.heap.size ≤ g ∧ w3.heap[g]? = some (.cells cur 9 (0, 0)) ∧ l.length ≤ cap ∧ cap ≤ maxLen ∧ cur.size = cap * 1 ∧ cur.toList.take (l.length * 1) = strVs l := by
      rcases hO3.2 with ⟨_, h0⟩ | h
      · omega
      · exact h
    injection hA with hA1 hA2 hA3
    subst hA1 hA3
    clear hA2
    have hmix : MixRow w3 g n3 d3 l 0 := ⟨cur, hgb, by omega, by rw [hn3, ← Nat.mul_one l.length, htk]; rfl⟩
    have z3 := (hb3.block _ (Array.getElem?_eq_some_iff.1 z1).1).trans z1
    have hb4 : Below w.heap.size w w3 := hb2.trans (hb3.mono hb2.size)
    have hwg : w.heap.size < g := by have := (Array.getElem?_eq_some_iff.1 z1).1; omega
    have Hn3 := Lib.hid hn3
    have Hmix := Lib.hid hmix
    have hn3b : n3 ≤ 100001 := by omega
    have hn30 : 0 < n3 := by omega
    clear hO3 hge hgb hnc hsz htk hmix z1 hb3 hb2 hn3
    go_wp2_with fail
    go_loopw [7] (fun i wr => ∃ k : Nat, k ≤ n3 ∧ i = .int .i64 (k : Int) ∧ MixRow wr g n3 d3 l k ∧ wr.heap[w.heap.size]? = some (.cells zeroC 82 (0, 0)) ∧ Below w.heap.size w wr) (fun i _ => n3 - (RowKit.intOf i).toNat)
    case atStart => exact ⟨0, Nat.zero_le _, rfl, Hmix.out, z3, hb4⟩
    case round =>
      clear z3 hb4 Hmix
      obtain ⟨k, hk, rfl, hmx, zr, hbr⟩ := hrel
      rcases Nat.lt_or_ge k n3 with hlt | hge
      · obtain ⟨c0, f0⟩ := hmx.get Hn3.out hlt
        have hst := hmx.step Hn3.out hlt
        have hkl : k < l.length := by rw [← Hn3.out]; exact hlt
        have hml := Hmem.out l[k] (List.getElem_mem hkl)
        have htr := fun W => ref_Trim l[k] W (by omega)
        have Htr := Lib.hid htr
        have Hst := Lib.hid hst
        have Zr := Lib.hid zr
        clear hmx hst htr zr
        generalize l[k] = t at *
        go_wp2_with fail
        refine (Htr.out _).mono ?_
        rintro e w5 ⟨rfl, rfl⟩
        go_wp2_with fail
        go_roundw
        case rel => exact ⟨k + 1, by omega, by go_num, Hst.out, (Below.heap_setCell _ _ _ _ (show w.heap.size ≠ g by omega)).trans Zr.out, hbr.setCell (p := ⟨g, k, none⟩) (by show w.heap.size ≤ g; omega) _⟩
        case measure => simp [RowKit.intOf]; omega
      · have hkn : k = n3 := by omega
        subst hkn
        have hS := hmx.strs Hn3.out
        have hlm : ∀ x ∈ l.map trimL, x.length ≤ 100000 := fun x hx => by
          obtain ⟨y, hy, rfl⟩ := List.mem_map.1 hx
          have := Hmem.out y hy
          have := trimL_len y
          omega
        have h0m : 0 < (l.map trimL).length := by simpa using h0l
        have hml : (l.map trimL).length = k := by rw [List.length_map]; exact Hn3.out.symm
        have hL3 := HL2.out
        clear HL2 hmx h0l Hmem
        generalize l.map trimL = m at *
        have hh0 : m.headD [] = m[0] := by cases m with | nil => simp at h0m | cons a b => rfl
        rw [hh0] at hL3
        obtain ⟨gb, go, hgo, hgl, hgc⟩ := hS.at_ hn30
        obtain ⟨rfl, rfl⟩ : g = gb ∧ 0 = go := by simpa using hgo
        have q0 := hgc 0 h0m
        simp only [Nat.add_zero] at q0
        have hen := fun W => ref_ends m[0] W (by have := hlm m[0] (List.getElem_mem h0m); omega)
        have HS := Lib.hid hS
        have Hen := Lib.hid hen
        have Hml := Lib.hid hml
        clear hS hen hlm hgo hgc hml hh0
        have f0 := frozen_blk zr 0
        have f1 := frozen_blk zr 1
        have f2 := frozen_blk zr 2
        have f3 := frozen_blk zr 3
        have k0 := cell_blk zr 0
        have k1 := cell_blk zr 1
        have k2 := cell_blk zr 2
        have k3 := cell_blk zr 3
        simp only [zeroC, List.getElem?_toArray, List.getElem?_cons_zero, List.getElem?_cons_succ] at k0 k1 k2 k3
        have HL3 := Lib.hid hL3
        clear hL3
        go_wp2_with fail
        refine (Hen.out _).mono ?_
        rintro e w4 ⟨⟨a, b, rfl, hab⟩, rfl⟩
        have hL3 := HL3.out
        clear q0 Hen HL3
        rcases hen : endsN m[0] with _ | ⟨x, y⟩
        · rw [hen] at hL3
          simp only at hL3
          have HL4 := Lib.hid hL3
          clear hL3 hen hab
          simp only [Option.isSome_none]
          go_wp2_with fail
          obtain ⟨x0, x1, x2, x3⟩ := set4_cells zr (.int .i64 0) (.int .i64 0) (.int .i64 0) (.slice none 0 0)
          refine bodyPost_ret (v := .tuple #[.agg zeroC, .bool false, .int .i64 21]) (by simp [results, Tryz.results89, go_sem, x0, x1, x2, x3]) rfl ⟨?_, below_set4 hbr (Nat.le_refl _) _ _ _ _⟩
          rw [← HL4.out]
          rfl
        · rw [hen] at hL3 hab
          simp only at hL3
          obtain ⟨rfl, rfl⟩ := hab x y rfl
          have HL3 := Lib.hid hL3
          clear hL3 hen hab
          simp only [Option.isSome_some]
          rcases (by omega : y < x ∨ (¬ y < x ∧ 1114111 < y) ∨ (¬ y < x ∧ ¬ 1114111 < y)) with hc | ⟨hc, hc'⟩ | ⟨hc, hc'⟩
          · have hL4 := HL3.out
            rw [if_pos (.inl hc)] at hL4
            have HL4 := Lib.hid hL4
            have hc2 : (y : Int) < (x : Int) := by omega
            clear hL4 HL3
            go_wp2_with fail
            obtain ⟨x0, x1, x2, x3⟩ := set4_cells zr (.int .i64 0) (.int .i64 0) (.int .i64 0) (.slice none 0 0)
            refine bodyPost_ret (v := .tuple #[.agg zeroC, .bool false, .int .i64 22]) (by simp [results, Tryz.results89, go_sem, x0, x1, x2, x3]) rfl ⟨?_, below_set4 hbr (Nat.le_refl _) _ _ _ _⟩
            rw [← HL4.out]
            rfl
          · have hL4 := HL3.out
            rw [if_pos (.inr hc')] at hL4
            have HL4 := Lib.hid hL4
            have hc2 : (x : Int) ≤ (y : Int) := by omega
            have hc3 : 1114111 < (y : Int) := by omega
            clear hL4 HL3
            go_wp2_with fail
            obtain ⟨x0, x1, x2, x3⟩ := set4_cells zr (.int .i64 0) (.int .i64 0) (.int .i64 0) (.slice none 0 0)
            refine bodyPost_ret (v := .tuple #[.agg zeroC, .bool false, .int .i64 22]) (by simp [results, Tryz.results89, go_sem, x0, x1, x2, x3]) rfl ⟨?_, below_set4 hbr (Nat.le_refl _) _ _ _ _⟩
            rw [← HL4.out]
            rfl
          · have hL4 := HL3.out
            rw [if_neg (by omega)] at hL4
            have hc2 : (x : Int) ≤ (y : Int) := by omega
            have hc3 : (y : Int) ≤ 1114111 := by omega
            have hmk := Hml.out
            rcases (by omega : m.length < 2 ∨ (¬ m.length < 2 ∧ 21 < m.length) ∨ (¬ m.length < 2 ∧ ¬ 21 < m.length)) with hd | ⟨hd, hd'⟩ | ⟨hd, hd'⟩
            · rw [if_pos (.inl hd)] at hL4
              have HL4 := Lib.hid hL4
              have hd2 : k < 2 := by omega
              clear hL4 HL3 hmk
              go_wp2_with fail
              obtain ⟨x0, x1, x2, x3⟩ := set4_cells zr (.int .i64 0) (.int .i64 0) (.int .i64 0) (.slice none 0 0)
              refine bodyPost_ret (v := .tuple #[.agg zeroC, .bool false, .int .i64 23]) (by simp [results, Tryz.results89, go_sem, x0, x1, x2, x3]) rfl ⟨?_, below_set4 hbr (Nat.le_refl _) _ _ _ _⟩
              rw [← HL4.out]
              rfl
            · rw [if_pos (.inr hd')] at hL4
              have HL4 := Lib.hid hL4
              have hd2 : ¬ k < 2 := by omega
              have hd3 : 21 < k := by omega
              clear hL4 HL3 hmk
              go_wp2_with fail
              obtain ⟨x0, x1, x2, x3⟩ := set4_cells zr (.int .i64 0) (.int .i64 0) (.int .i64 0) (.slice none 0 0)
              refine bodyPost_ret (v := .tuple #[.agg zeroC, .bool false, .int .i64 23]) (by simp [results, Tryz.results89, go_sem, x0, x1, x2, x3]) rfl ⟨?_, below_set4 hbr (Nat.le_refl _) _ _ _ _⟩
              rw [← HL4.out]
              rfl
            · rw [if_neg (by omega)] at hL4
              have HL4 := Lib.hid hL4
              have hd2 : ¬ k < 2 := by omega
              have hd3 : ¬ 21 < k := by omega
              have hd4 : ¬ d3 = 1 := by omega
              have hd5 : 1 ≤ k := by omega
              clear hL4 HL3 hmk
              go_wp2_with fail
              obtain ⟨x0, x1, x2, x3⟩ := set4_cells zr (.int .i64 0) (.int .i64 (x : Int)) (.int .i64 (y : Int)) (.slice (some ⟨g, 1, none⟩) (k - 1) (d3 - 1))
              refine bodyPost_ret (v := .tuple #[.agg #[.int .i64 0, .int .i64 (x : Int), .int .i64 (y : Int), .slice (some ⟨g, 1, none⟩) (k - 1) (d3 - 1)], .bool true, .int .i64 0]) (by simp [results, Tryz.results89, go_sem, x0, x1, x2, x3]) rfl ⟨?_, below_set4 hbr (Nat.le_refl _) _ _ _ _⟩
              rw [← HL4.out]
              refine ⟨some ⟨g, 1, none⟩, k - 1, d3 - 1, rfl, ?_, by omega, fun _ => ⟨g, 1, rfl, by omega⟩⟩
              exact strs_set4 ((HS.out.tail hn30).more (by simp [World.setCell])) (by omega) _ _ _ _
end Go.Vir


namespace Go.Vir
open Go Go.RowKit

structure KeepE (O : Nat → Prop) (B0 F : Nat) (A B : World) : Prop where
  size : A.heap.size ≤ B.heap.size
  low : ∀ k : Nat, k < B0 → B.heap[k]? = A.heap[k]?
  data : ∀ (k : Nat) (o : Obj), k < F → ¬ O k → A.heap[k]? = some o → isData o = true → B.heap[k]? = some o
  other : ∀ (k : Nat) (o : Obj), A.heap[k]? = some o → isData o = false → B.heap[k]? = some o
section
variable {O : Nat → Prop} {B0 F : Nat} {A B C : World}
theorem KeepE.refl (O : Nat → Prop) (B0 F : Nat) (A : World) : KeepE O B0 F A A := ⟨Nat.le_refl _, fun _ _ => rfl, fun _ _ _ _ h _ => h, fun _ _ h _ => h⟩
theorem KeepE.trans (h : KeepE O B0 F A B) (k : KeepE O B0 F B C) : KeepE O B0 F A C :=
  ⟨Nat.le_trans h.size k.size, fun i hi => (k.low i hi).trans (h.low i hi), fun i o hF hO hi hd => k.data i o hF hO (h.data i o hF hO hi hd) hd, fun i o hi hd => k.other i o (h.other i o hi hd) hd⟩
theorem KeepE.below (hB : B0 ≤ A.heap.size) (h : Below A.heap.size A B) : KeepE O B0 F A B :=
  ⟨h.size, fun k hk => h.block k (by omega), fun k o _ _ hk _ => (h.block k (Array.getElem?_eq_some_iff.1 hk).1).trans hk, fun k o hk _ => (h.block k (Array.getElem?_eq_some_iff.1 hk).1).trans hk⟩
theorem KeepE.setCell (A : World) {p : Addr} (hp : O p.block ∨ F ≤ p.block) (hB : B0 ≤ p.block) (u : Value) : KeepE O B0 F A (A.setCell p u) :=
  ⟨by simp [World.setCell], fun k hk => Below.heap_setCell _ _ _ _ (by omega), fun k o hk ho hi _ => (Below.heap_setCell _ _ _ _ (fun e => by
      subst e
      rcases hp with h | h
      · exact ho h
      · omega)).trans hi, fun k o hk hd => by
    by_cases e : k = p.block
    · subst e
      simp only [World.setCell, Array.getElem?_modify, if_true, hk, Option.map_some]
      cases o <;> first | rfl | (simp [isData] at hd)
    · exact (Below.heap_setCell _ _ _ _ e).trans hk⟩
theorem KeepE.grown {row : Option Nat} (hB : B0 ≤ A.heap.size) (hg : A.grownBy B row)
    (hr : ∀ k, row = some k → B0 ≤ k ∧ (O k ∨ F ≤ k) ∧ ∃ o, A.heap[k]? = some o ∧ isData o = true) : KeepE O B0 F A B :=
  ⟨hg.size, fun k hk => hg.block k (by omega) (fun e => by have := (hr k e.symm).1; omega),
   fun k o hk ho hi _ => (hg.block k (Array.getElem?_eq_some_iff.1 hi).1 (fun e => by
     rcases (hr k e.symm).2.1 with h | h
     · exact ho h
     · omega)).trans hi,
   fun k o hk hd => (hg.block k (Array.getElem?_eq_some_iff.1 hk).1 (fun e => by
     obtain ⟨_, _, o', h1, h2⟩ := hr k e.symm
     rw [hk] at h1; cases h1; rw [hd] at h2; cases h2)).trans hk⟩
theorem KeepE.any (h : KeepE O B0 F A B) : KeepE (fun _ => True) 0 0 A B := ⟨h.size, fun k hk => absurd hk (by omega), fun k _ hk => absurd hk (by omega), h.other⟩
theorem KeepE.cell (h : KeepE O B0 F A B) {k o : Nat} {v : Value} (hk : k < F) (ho : ¬ O k) (hc : A.cell? ⟨k, o, none⟩ = some v) : B.cell? ⟨k, o, none⟩ = some v := by
  rcases hb : A.heap[k]? with _ | ob
  · simp [World.cell?, hb] at hc
  · cases ob with
    | cells cs t m => exact (World.cell?_of_block (a := ⟨k, o, none⟩) ((h.data k _ hk ho hb rfl).trans hb.symm)).trans hc
    | _ => simp [World.cell?, hb] at hc
end

def IterE (P : Program) (gf : Nat) (lb : Array Value) (N : Nat) (Rd : Nat → World → Prop) (Ev : Nat → Array Value → World → World → Prop) (M : World → World → Prop) (O : Nat → Prop) (B0 : Nat) (W0 : World) : Prop :=
  ∀ (l : Nat) (J : Nat → Nat → World → Prop) (Jx : Nat → World → Prop) (W : World), Below W0.heap.size W0 W →
    (∀ F i A, J F i A → Rd i A) → (∀ F i A B, J F i A → M A B → J F i B) →
    (∀ F i xs A W', i < N → W.heap.size ≤ F → F ≤ A.heap.size → J F i A → M A W' → Ev i xs A W' → YieldAt Fence.wide 0 P l xs W' fun e W'' =>
      (e = .returned (.bool true) ∧ J F (i + 1) W'' ∧ KeepE O B0 F W' W'') ∨ (e = .returned (.bool false) ∧ Jx i W'')) →
    (∀ F, W.heap.size ≤ F → J F 0 W) → CallsIn Fence.wide 0 P gf (#[.func (.yield l) #[] #[]] ++ lb) W fun e W' => (∃ v, e = .returned v) ∧ ((∃ F, J F N W') ∨ ∃ i, i < N ∧ Jx i W')

def roundE (O : Nat → Prop) (B0 F : Nat) (I : Nat → Nat → World → Prop) (Ix : Nat → Code → World → Prop) (i : Nat) (W : World) : Exit → Act → World → Prop
  | .normal, _, W' => KeepE O B0 F W W' ∧ I F (i + 1) W'
  | .ret, _, W' => KeepE (fun _ => True) 0 0 W W' ∧ Ix i .ret W'
  | .exit id, _, W' => KeepE (fun _ => True) 0 0 W W' ∧ Ix i (.exit id) W'
  | .goto t, _, W' => KeepE (fun _ => True) 0 0 W W' ∧ Ix i (.goto t) W'
  | .panic _, _, _ => False
  | .outgrown, _, _ => False

theorem range_lawE {P : Program} {g : Operand} {ps : Array Tmp} {assign body : Code} {Q : Exit → Act → World → Prop} {a : Act} {w : World}
    {gf : Nat} {lb : Array Value} {N : Nat} {Rd : Nat → World → Prop} {Ev : Nat → Array Value → World → World → Prop} {M : World → World → Prop} {O : Nat → Prop} {B0 : Nat} {W0 : World}
    (hg : a.eval g = .func (.func gf) #[] lb) (eg : ∀ args w, (callFunc gf args).run P w = .ok (.enter gf args) w)
    (hit : IterE P gf lb N Rd Ev M O B0 W0) (hb0 : Below W0.heap.size W0 w) (hB0 : B0 ≤ w.heap.size)
    (hM : ∀ A B, M A B → ∀ (k : Nat) (o : Obj), A.heap[k]? = some o → isData o = false → B.heap[k]? = some o)
    (hMs : ∀ A B, M A B → A.heap.size ≤ B.heap.size) (hps : ∀ i xs A W, Ev i xs A W → xs.size = ps.size)
    (I : Nat → Nat → World → Prop) (Ix : Nat → Code → World → Prop) (Ib : Nat → Nat → Act → World → Prop)
    (hIR : ∀ F i A, I F i A → Rd i A) (hIM : ∀ F i A B, I F i A → M A B → I F i B)
    (hIP : ∀ F i A l o o', w.heap.size ≤ l → l < F → A.heap[l]? = some o → isData o = false → I F i A → I F i (A.putObj l o'))
    (hIbP : ∀ F i a A l o o', w.heap.size ≤ l → l < F → A.heap[l]? = some o → isData o = false → Ib F i a A → Ib F i a (A.putObj l o'))
    (hIxP : ∀ i c A l o o', w.heap.size ≤ l → A.heap[l]? = some o → isData o = false → Ix i c A → Ix i c (A.putObj l o'))
    (h0 : ∀ F W, w.heap.size + 2 ≤ F → Below w.heap.size w W → I F 0 W)
    (hassign : ∀ (l F i : Nat) (xs : Array Value) (A W : World) (K : Act → World → Prop), i < N → w.heap.size + 2 ≤ F → F ≤ A.heap.size → I F i A → M A W → Ev i xs A W → w.heap.size ≤ W.heap.size → (∀ a' W', Below W.heap.size W W' → Ib F i a' W' → K a' W') →
      assign.wpIn (Fence.wide.inRound l) 0 P (Exit.then K (fun _ _ _ => False)) { tmps := (ps.zip xs).foldl (fun t (p, v) => t.setIfInBounds p v) a.tmps, defers := [] } W)
    (hbody : ∀ (l F i : Nat) (a' : Act) (W : World), i < N → w.heap.size + 2 ≤ F → F ≤ W.heap.size → Ib F i a' W → w.heap.size ≤ W.heap.size → body.wpIn (Fence.wide.inRound l) 0 P (roundE O B0 F I Ix i W) a' W)
    (hdone : ∀ (D F : Nat) (W : World), w.heap.size ≤ D → I F N W → W.heap[D]? = some (.deferred (some [])) → Q .normal { a with defers := { target := .collected D, args := #[] } :: a.defers } W)
    (hstop : ∀ (D i : Nat) (c : Code) (W : World), w.heap.size ≤ D → i < N → Ix i c W → W.heap[D]? = some (.deferred (some [])) → c.wpIn Fence.wide 0 P Q { a with defers := { target := .collected D, args := #[] } :: a.defers } W) :
    (Code.rangeFunc g ps assign body).wpIn Fence.wide 0 P Q a w := by
  refine wpIn_rangeFunc ?_
  intro fn hfn
  obtain ⟨rec, hrec⟩ : ∃ rec : LoopState → Option Code → Loop, rec = fun st pe => { state := st, pending := pe, fn, tmps := a.tmps, params := ps, assign, body, defers := w.heap.size } := ⟨_, rfl⟩
  obtain ⟨W1, hW1⟩ : ∃ W1, (w.alloc (.deferred (some []))).alloc (.loop (rec .ready none)) = W1 := ⟨_, rfl⟩
  have hL1 : W1.heap[w.heap.size + 1]? = some (.loop (rec .ready none)) := by
    rw [← hW1]; have := World.alloc_heap_new (w.alloc (.deferred (some []))) (.loop (rec .ready none)); rwa [World.size_alloc] at this
  have hK1 : W1.heap[w.heap.size]? = some (.deferred (some [])) := by
    rw [← hW1]; exact (Below.heap_alloc _ _ _ (by simp)).trans (World.alloc_heap_new w _)
  have hsz : W1.heap.size = w.heap.size + 2 := by rw [← hW1]; simp
  have hbw : Below w.heap.size w W1 := by rw [← hW1]; exact ((Below.refl _ w).alloc (Nat.le_refl _) _).alloc (by simp) _
  have hb1 : Below W0.heap.size W0 W1 := hb0.trans (hbw.mono hb0.size)
  refine ⟨w.heap.size + 1, [{ target := .collected w.heap.size, args := #[] }], W1, { target := .fn (.func gf) lb, args := #[.func (.yield (w.heap.size + 1)) #[] #[]] }, W1, gf,
    #[.func (.yield (w.heap.size + 1)) #[] #[]] ++ lb, W1, ?_, ?_, ?_, ?_, fun _ => by simp [Fence.wide] at *, ?_⟩
  · rw [← hW1, hrec]; exact run_enterLoop_outer _ _ _ _ _
  · simp only [resolve, hg]
    simp [go_sem]
  · intro f' _; trivial
  · simp [invoke, go_sem, eg]
  · refine (hit (w.heap.size + 1)
      (fun F i W => w.heap.size + 2 ≤ F ∧ w.heap.size + 2 ≤ W.heap.size ∧ I F i W ∧ W.heap[w.heap.size + 1]? = some (.loop (rec .ready none)) ∧ W.heap[w.heap.size]? = some (.deferred (some [])))
      (fun i W => ∃ c, Ix i c W ∧ W.heap[w.heap.size + 1]? = some (.loop (rec .done (some c))) ∧ W.heap[w.heap.size]? = some (.deferred (some [])))
      W1 hb1 ?_ ?_ ?_ ?_).mono ?_
    · rintro F i A ⟨_, _, h1, _⟩
      exact hIR _ _ _ h1
    · rintro F i A B ⟨h0, h1, h2, h3, h4⟩ hm
      have h5 := hM _ _ hm _ _ h3 rfl
      exact ⟨h0, by have := (Array.getElem?_eq_some_iff.1 h5).1; omega, hIM _ _ _ _ h2 hm, h5, hM _ _ hm _ _ h4 rfl⟩
    · rintro F i xs Ao Wo hi hWF hFW ⟨hF, hsza, hi0, hla, hka⟩ hmo hev
      have hlo := hM _ _ hmo _ _ hla rfl
      have hko := hM _ _ hmo _ _ hka rfl
      have hszo := hMs _ _ hmo
      have hlto : w.heap.size + 1 < Wo.heap.size := (Array.getElem?_eq_some_iff.1 hlo).1
      have hy := run_yield (P := P) (args := xs) hlo (by rw [hrec]; exact hps i _ _ _ hev)
      rw [hrec] at hy
      refine ⟨fn, _, assign, body, hy, roundIn_of_wpIn hfn (hassign _ F i xs Ao Wo _ hi hF hFW hi0 hmo hev (by omega) (fun a' W hbw hib => ?_))⟩
      have hl := (hbw.block _ hlto).trans hlo
      have hk := (hbw.block _ (show w.heap.size < Wo.heap.size by omega)).trans hko
      have hlt : w.heap.size + 1 < W.heap.size := (Array.getElem?_eq_some_iff.1 hl).1
      have hkw : KeepE O B0 F Wo W := KeepE.below (by omega) hbw
      refine ⟨_, run_beginRound hl (by rw [hrec]), ?_⟩
      have hl2 : (W.putObj (w.heap.size + 1) (.loop { rec .ready none with state := .busy })).heap[w.heap.size + 1]? = some (.loop { rec .ready none with state := .busy }) := World.putObj_heap_same hlt
      have hk2 : (W.putObj (w.heap.size + 1) (.loop { rec .ready none with state := .busy })).heap[w.heap.size]? = some (.deferred (some [])) := (World.putObj_heap_other (by omega)).trans hk
      refine wpIn_mono (hbody _ F i a' _ hi hF (by have := hbw.size; simp; omega) (hIbP _ _ _ _ _ _ _ (by omega) (by omega) hl rfl hib) (by simp; omega)) ?_
      have fin : ∀ (jump : Option Code) (W3 : World), KeepE (fun _ => True) 0 0 (W.putObj (w.heap.size + 1) (.loop { rec .ready none with state := .busy })) W3 →
          (Instr.endRound (w.heap.size + 1) jump).run P W3 = .ok (.bool jump.isNone) (W3.putObj (w.heap.size + 1) (.loop (rec (if jump.isNone then .ready else .done) jump))) ∧
          W3.heap[w.heap.size + 1]? = some (.loop { rec .ready none with state := .busy }) ∧
          (W3.putObj (w.heap.size + 1) (.loop (rec (if jump.isNone then .ready else .done) jump))).heap[w.heap.size + 1]? = some (.loop (rec (if jump.isNone then .ready else .done) jump)) ∧
          (W3.putObj (w.heap.size + 1) (.loop (rec (if jump.isNone then .ready else .done) jump))).heap[w.heap.size]? = some (.deferred (some [])) := fun jump W3 hk3 => by
        have hl3 := hk3.other _ _ hl2 rfl
        have := run_endRound (P := P) jump hl3
        rw [hrec] at this ⊢
        exact ⟨this, by rw [hrec] at hl3; exact hl3, World.putObj_heap_same (Array.getElem?_eq_some_iff.1 hl3).1, (World.putObj_heap_other (by omega)).trans (hk3.other _ _ hk2 rfl)⟩
      rintro e a3 W3 hp
      cases e with
      | normal =>
        obtain ⟨hk3, hi3⟩ := hp
        obtain ⟨hr, hl3, hl4, hk4⟩ := fin none W3 hk3.any
        have hs3 : w.heap.size + 1 < W3.heap.size := (Array.getElem?_eq_some_iff.1 hl3).1
        refine ⟨_, _, hr, .inl ⟨rfl, ⟨hF, by simp; omega, hIP _ _ _ _ _ _ (by omega) (by omega) hl3 rfl hi3, hl4, hk4⟩, hkw.trans ?_⟩⟩
        refine ⟨by have := hk3.size; simp at this ⊢; omega, fun k hk => ?_, fun k o hkF hO ho hd => ?_, fun k o ho hd => ?_⟩
        · rw [World.putObj_heap_other (by omega), hk3.low k hk, World.putObj_heap_other (by omega)]
        · have e : k ≠ w.heap.size + 1 := by
            rintro rfl
            rw [hl] at ho; cases ho; simp [isData] at hd
          rw [World.putObj_heap_other e]
          exact hk3.data k o hkF hO (by rw [World.putObj_heap_other e]; exact ho) hd
        · by_cases e : k = w.heap.size + 1
          · subst e; rw [hl] at ho; cases ho; exact hl4
          · rw [World.putObj_heap_other e]
            exact hk3.other k o (by rw [World.putObj_heap_other e]; exact ho) hd
      | ret =>
        obtain ⟨hk3, hi3⟩ := hp
        obtain ⟨hr, hl3, hl4, hk4⟩ := fin (some .ret) W3 hk3
        exact ⟨_, _, hr, .inr ⟨rfl, .ret, hIxP _ _ _ _ _ _ (by omega) hl3 rfl hi3, hl4, hk4⟩⟩
      | exit id =>
        obtain ⟨hk3, hi3⟩ := hp
        obtain ⟨hr, hl3, hl4, hk4⟩ := fin (some (.exit id)) W3 hk3
        exact ⟨_, _, hr, .inr ⟨rfl, .exit id, hIxP _ _ _ _ _ _ (by omega) hl3 rfl hi3, hl4, hk4⟩⟩
      | goto t =>
        obtain ⟨hk3, hi3⟩ := hp
        obtain ⟨hr, hl3, hl4, hk4⟩ := fin (some (.goto t)) W3 hk3
        exact ⟨_, _, hr, .inr ⟨rfl, .goto t, hIxP _ _ _ _ _ _ (by omega) hl3 rfl hi3, hl4, hk4⟩⟩
      | panic ch => exact hp.elim
      | outgrown => exact hp.elim
    · exact fun F hF => ⟨by omega, by omega, h0 F W1 (by omega) hbw, hL1, hK1⟩
    · rintro e W2 ⟨⟨v, rfl⟩, (⟨F, hF2, _, hi, hl, hk⟩ | ⟨i, hiN, c, hi, hl, hk⟩)⟩
      · exact ⟨none, _, by have := run_endLoop (P := P) hl (by rw [hrec]; simp); rw [hrec] at this; exact this, hdone _ F _ (Nat.le_refl _) (hIP _ _ _ _ _ _ (by omega) (by omega) hl rfl hi) ((World.putObj_heap_other (by omega)).trans hk)⟩
      · exact ⟨some c, _, by have := run_endLoop (P := P) hl (by rw [hrec]; simp); rw [hrec] at this; exact this, hstop _ i c _ (Nat.le_refl _) hiN (hIxP _ _ _ _ _ _ (by omega) hl rfl hi) ((World.putObj_heap_other (by omega)).trans hk)⟩

end Go.Vir

