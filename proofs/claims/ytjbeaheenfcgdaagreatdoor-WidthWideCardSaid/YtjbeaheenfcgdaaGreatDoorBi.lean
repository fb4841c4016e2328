/- Joined texts: Flt, Fd4, Fd6, RngE, Fd8, Hel2. -/
import Derived.Test.YtjbeaheenfcgdaaGreatDoorBh
import Derived.Test.YtjbeaheenfcgdaaGreatDoorBb
import Derived.Test.YtjbeaheenfcgdaaGreatDoorBf
import Derived.Test.YtjbeaheenfcgdaaGreatDoorBa
import Derived.Laws.Cover3
import Derived.WalkLawsBesides
import Derived.Deep.RegionLaw
/- Floats that stand for whole numbers below 2^24: how they compare, what they turn back into. No program. -/
namespace Go.Vir
open Go

/-- The float of a whole number. -/
def FF (n : Nat) : Nat := Ieee.double.nearest false n 0

theorem dbl_binade : Ieee.double.binade = 4503599627370496 := by decide
theorem dbl_inf : Ieee.double.infRung = 9218868437227405312 := by decide
theorem dbl_sign : Ieee.double.signWeight = 9223372036854775808 := by decide
theorem dbl_least : Ieee.double.leastPlace = -1074 := by decide
theorem dbl_frac : Ieee.double.fractionBits = 52 := rfl

theorem cut_none (way : Ieee.Toward) (s : Bool) (n : Nat) : way.cut s n 0 = n := by
  unfold Ieee.Toward.cut
  cases way <;> simp [Nat.mod_one]

theorem read_word (r : Nat) (h1 : 4503599627370496 ≤ r) (h2 : r < 9218868437227405312) :
    Ieee.double.read r = .number false (4503599627370496 + r % 4503599627370496) (-1074 + (r / 4503599627370496 - 1 : Nat)) := by
  unfold Ieee.Format.read
  simp only [dbl_binade, dbl_inf, dbl_sign, dbl_least]
  have e1 : r % 9223372036854775808 = r := Nat.mod_eq_of_lt (by omega)
  have e2 : r / 9223372036854775808 = 0 := Nat.div_eq_of_lt (by omega)
  rw [e1, e2, if_neg (by omega), if_pos h2]
  rfl

theorem read_zero (q : Nat) (hq : q = 1074) : Ieee.double.read (FF 0) = .number false (0 * 2 ^ q) (-(q : Int)) := by
  rw [Nat.zero_mul]
  have : FF 0 = 0 := by decide
  rw [this, hq]
  unfold Ieee.Format.read
  simp only [dbl_binade, dbl_sign, dbl_least]
  rfl

theorem read_FF (n : Nat) (h : n < 16777216) : ∃ p : Nat, p ≤ 1074 ∧ Ieee.double.read (FF n) = .number false (n * 2 ^ p) (-(p : Int)) ∧ (n ≠ 0 → p ≤ 52 ∧ 2 ^ 52 ≤ n * 2 ^ p) := by
  by_cases h0 : n = 0
  · subst h0
    exact ⟨1074, Nat.le_refl _, read_zero 1074 rfl, fun h => absurd rfl h⟩
  · have hl1 := Nat.log2_self_le h0
    have hl2 : n < 2 ^ (n.log2 + 1) := Nat.lt_log2_self
    have hl3 : n.log2 < 24 := (Nat.log2_lt h0).2 (by omega)
    generalize hL : n.log2 = L at *
    have hk1 : 2 ^ 52 ≤ n * 2 ^ (52 - L) := by
      calc 2 ^ 52 = 2 ^ L * 2 ^ (52 - L) := by rw [← Nat.pow_add]; congr 1; omega
        _ ≤ n * 2 ^ (52 - L) := Nat.mul_le_mul_right _ hl1
    have hk2 : n * 2 ^ (52 - L) < 2 ^ 53 := by
      calc n * 2 ^ (52 - L) < 2 ^ (L + 1) * 2 ^ (52 - L) := Nat.mul_lt_mul_of_pos_right hl2 (Nat.two_pow_pos _)
        _ = 2 ^ 53 := by rw [← Nat.pow_add]; congr 1; omega
    refine ⟨52 - L, by omega, ?_, fun _ => ⟨by omega, hk1⟩⟩
    have hff : FF n = (1022 + L) * 4503599627370496 + n * 2 ^ (52 - L) := by
      unfold FF Ieee.Format.nearest
      rw [if_neg h0]
      simp only [dbl_binade, dbl_inf, dbl_least, dbl_frac, hL]
      have hm : max ((0 : Int) + (L : Int) - ((52 : Nat) : Int)) (-1074) = -((52 - L : Nat) : Int) := by omega
      rw [hm]
      have e1 : ((0 : Int) - -((52 - L : Nat) : Int)).toNat = 52 - L := by omega
      have e2 : (-((52 - L : Nat) : Int) - 0).toNat = 0 := by omega
      have e3 : (-((52 - L : Nat) : Int) - -1074).toNat = 1022 + L := by omega
      rw [e1, e2, e3, cut_none, Nat.shiftLeft_eq]
      generalize n * 2 ^ (52 - L) = k at *
      show (if false = true then _ else _) = _
      rw [if_neg (by simp)]
      exact Nat.min_eq_left (by omega)
    rw [hff]
    generalize n * 2 ^ (52 - L) = k at *
    rw [read_word _ (by omega) (by omega)]
    congr 1
    · omega
    · omega

theorem cmp_mul (a b c : Nat) (hc : 0 < c) : compare (((a * c : Nat)) : Int) ((b * c : Nat) : Int) = compare a b := by
  show compareOfLessAndEq _ _ = compareOfLessAndEq _ _
  unfold compareOfLessAndEq
  have h1 : (((a * c : Nat) : Int) < ((b * c : Nat) : Int)) ↔ a < b := by
    rw [Int.ofNat_lt]; exact Nat.mul_lt_mul_right hc
  have h2 : (((a * c : Nat) : Int) = ((b * c : Nat) : Int)) ↔ a = b := by
    rw [Int.ofNat_inj]; exact Nat.mul_left_inj (by omega)
  simp only [h1, h2]

theorem order_FF (a b : Nat) (ha : a < 16777216) (hb : b < 16777216) : FloatKind.f64.format.order (FF a) (FF b) = some (compare a b) := by
  obtain ⟨p, _, h1, _⟩ := read_FF a ha
  obtain ⟨q, _, h2, _⟩ := read_FF b hb
  show ((Ieee.double.read (FF a)).order (Ieee.double.read (FF b))) = _
  rw [h1, h2]
  simp only [Ieee.Datum.order, Ieee.signed, Bool.false_eq_true, if_false, Nat.shiftLeft_eq]
  congr 1
  rcases Nat.le_total p q with hpq | hpq
  · have e0 : min (-(p : Int)) (-(q : Int)) = -(q : Int) := by omega
    rw [e0]
    have e1 : (-(p : Int) - -(q : Int)).toNat = q - p := by omega
    have e2 : (-(q : Int) - -(q : Int)).toNat = 0 := by omega
    rw [e1, e2, Nat.mul_assoc, ← Nat.pow_add, Nat.mul_assoc, ← Nat.pow_add, show p + (q - p) = q by omega, Nat.add_zero]
    exact cmp_mul a b _ (Nat.two_pow_pos _)
  · have e0 : min (-(p : Int)) (-(q : Int)) = -(p : Int) := by omega
    rw [e0]
    have e1 : (-(p : Int) - -(p : Int)).toNat = 0 := by omega
    have e2 : (-(q : Int) - -(p : Int)).toNat = p - q := by omega
    rw [e1, e2, Nat.mul_assoc, ← Nat.pow_add, Nat.mul_assoc, ← Nat.pow_add, show q + (p - q) = p by omega, Nat.add_zero]
    exact cmp_mul a b _ (Nat.two_pow_pos _)

theorem lt_FF (a b : Nat) (ha : a < 16777216) (hb : b < 16777216) : (FloatKind.f64.format.order (FF a) (FF b) == some .lt) = decide (a < b) := by
  rw [order_FF a b ha hb, Bool.eq_iff_iff, beq_iff_eq, Option.some.injEq, decide_eq_true_eq]
  exact Nat.compare_eq_lt
theorem gt_FF (a b : Nat) (ha : a < 16777216) (hb : b < 16777216) : (FloatKind.f64.format.order (FF a) (FF b) == some .gt) = decide (b < a) := by
  rw [order_FF a b ha hb, Bool.eq_iff_iff, beq_iff_eq, Option.some.injEq, decide_eq_true_eq]
  exact Nat.compare_eq_gt

theorem toInt_FF (n : Nat) (h : n < 16777216) : (FloatKind.f64.decode (FF n)).toInt .zero = some (n : Int) := by
  obtain ⟨p, _, h1, h2⟩ := read_FF n h
  show ((Ieee.double.read (FF n)).toInt .zero) = _
  rw [h1]
  simp only [Ieee.Datum.toInt, Ieee.Datum.integral, Ieee.signed, Bool.false_eq_true, if_false, Nat.shiftLeft_eq]
  have e1 : (-(p : Int)).toNat = 0 := by omega
  have e2 : (- -(p : Int)).toNat = p := by omega
  rw [e1, e2]
  simp only [Nat.pow_zero, Nat.mul_one]
  congr 2
  unfold Ieee.Toward.cut
  by_cases h0 : n = 0
  · subst h0; simp
  · obtain ⟨hp, hk⟩ := h2 h0
    have hlog : 52 ≤ (n * 2 ^ p).log2 := (Nat.le_log2 (by omega)).2 hk
    have hm : min p ((n * 2 ^ p).log2 + 2) = p := by omega
    simp only [hm, Nat.shiftLeft_eq, Nat.one_mul, Nat.mul_div_cancel _ (Nat.two_pow_pos p), Bool.toNat_false, Nat.add_zero]

theorem nearest_FF (n : Nat) : FloatKind.f64.nearest (n : Int) = FF n := by
  unfold FloatKind.nearest FF
  have h : decide ((n : Int) < 0) = false := by simp
  rw [h]
  rfl
theorem FF_max : FF 1114111 = 4697535882029170688 := by decide
end Go.Vir


/- The walks of a range's ends: viramaref03.ends, field.ends. -/
namespace Go.Vir
open Go Go.RowKit Go.Proofs Go.Shelf
attribute [local go_sem] Oper.semAt_some

theorem cut_dots : ∀ s : List UInt8, Lib.cut s [46, 46] = match dotsL s with | some (h, t) => (h, t, true) | none => (s, [], false) := by
  have key : ∀ s : List UInt8, match dotsL s with | some (h, _) => Lib.index s [46, 46] = (h.length : Int) | none => Lib.index s [46, 46] = -1 := by
    intro s
    induction s with
    | nil => rfl
    | cons b s ih =>
      unfold dotsL Lib.index
      have hp : ([46, 46] : List UInt8).isPrefixOf (b :: s) = decide (b = 46 ∧ s.head? = some 46) := by
        cases s with
        | nil => rw [Bool.eq_iff_iff]; simp [List.isPrefixOf]
        | cons c s =>
          show ((46 == b) && ((46 == c) && true)) = _
          rw [Bool.and_true, Bool.eq_iff_iff, Bool.and_eq_true, beq_iff_eq, beq_iff_eq, decide_eq_true_eq]
          exact ⟨fun h => ⟨h.1.symm, by rw [← h.2]; rfl⟩, fun h => ⟨h.1.symm, by have := h.2; simp at this; exact this.symm⟩⟩
      rw [hp]
      by_cases hc : b = 46 ∧ s.head? = some 46
      · rw [if_pos hc, decide_eq_true hc]; rfl
      · rw [if_neg hc, decide_eq_false hc]
        simp only [Bool.false_eq_true, if_false]
        rcases hd : dotsL s with _ | ⟨h, t⟩
        · rw [hd] at ih
          simp only at ih
          simp only [Option.map_none, ih]
          rfl
        · rw [hd] at ih
          simp only at ih
          simp only [Option.map_some, ih]
          have : (((h.length : Nat) : Int) == -1) = false := by rw [beq_eq_false_iff_ne]; omega
          rw [this]
          simp
  intro s
  have h := key s
  unfold Lib.cut
  rcases hd : dotsL s with _ | ⟨x, t⟩
  · rw [hd] at h
    simp only at h
    rw [h]
    rfl
  · rw [hd] at h
    simp only at h
    have hs := dots_len hd
    rw [h, if_pos (by omega)]
    simp only [Int.toNat_natCast]
    rw [hs]
    simp

theorem float_FF (n : Nat) : floatOfInt .f64 (n : Int) = FF n := nearest_FF n
def EndsC (r : Option (Nat × Nat)) (e : Ending) : Prop := ∃ a b : Nat, e = .returned (.tuple #[.complex .f64 (FF a) (FF b), .bool r.isSome]) ∧ ∀ x y, r = some (x, y) → a = x ∧ b = y
theorem ends_two {s h t : List UInt8} (hd : dotsL s = some (h, t)) : (endsN s).isSome = ((codeN h).isSome && (codeN t).isSome) ∧ ∀ x y, endsN s = some (x, y) → codeI h = (x : Int) ∧ codeI t = (y : Int) ∧ (codeN h).getD 0 = x ∧ (codeN t).getD 0 = y := by
  have e : endsN s = match codeN h, codeN t with
    | some a, some b => some (a, b)
    | _, _ => none := by unfold endsN; rw [hd]; rfl
  rw [e]
  unfold codeI
  rcases codeN h with _ | a
  · exact ⟨rfl, fun x y h => by cases h⟩
  · rcases codeN t with _ | b
    · exact ⟨rfl, fun x y h => by cases h⟩
    · exact ⟨rfl, fun x y h => by cases h; exact ⟨rfl, rfl, rfl, rfl⟩⟩
theorem ends_one {s : List UInt8} (hd : dotsL s = none) : (endsN s).isSome = (codeN s).isSome ∧ ∀ x y, endsN s = some (x, y) → codeI s = (x : Int) ∧ codeI s = (y : Int) ∧ (codeN s).getD 0 = x ∧ (codeN s).getD 0 = y := by
  have e : endsN s = (codeN s).map fun n => (n, n) := by unfold endsN; rw [hd]
  rw [e]
  unfold codeI
  rcases codeN s with _ | a
  · exact ⟨rfl, fun x y h => by cases h⟩
  · exact ⟨rfl, fun x y h => by cases h; exact ⟨rfl, rfl, rfl, rfl⟩⟩

set_option maxHeartbeats 1600000 in
theorem field_ends (s : List UInt8) (w : World) (hG : ∃ m, w.cell? ⟨9, 0, none⟩ = some (.int .i64 m)) (hs : s.length ≤ 1000000) :
    Calls Tryz.prog 183 #[.string ⟨s.toArray⟩] w fun e w' => EndsC (endsN s) e ∧ Below w.heap.size w w' := by
  obtain ⟨mm, hmm⟩ := hG
  have hcut := Tryz.strings_Cut ⟨s.toArray⟩ ⟨#[46, 46]⟩ mm w (by have := Lib.size_eq ⟨s.toArray⟩; simp at this ⊢; omega) hmm
  rw [show (⟨s.toArray⟩ : ByteArray).data.toList = s by simp, show (⟨#[46, 46]⟩ : ByteArray).data.toList = [46, 46] by rfl, cut_dots] at hcut
  have hnf := float_FF
  rcases hd : dotsL s with _ | ⟨h, t⟩
  · rw [hd] at hcut
    simp only at hcut
    obtain ⟨h1, h2⟩ := ends_one hd
    have hc := fun W => field_Code s W (by omega)
    rw [show codeI s = (((codeN s).getD 0 : Nat) : Int) from rfl] at hc
    generalize endsN s = R at *
    have H2 := Lib.hid h2
    have Hcut := Lib.hid hcut
    have Hc := Lib.hid hc
    have H1 := Lib.hid h1
    clear h1 h2 hcut hc hd
    generalize (codeN s).isSome = ok at *
    generalize (codeN s).getD 0 = a at *
    go_enter Tryz.func183, Tryz.ntmps183
    go_wp2_with fail
    refine Hcut.out.mono ?_
    rintro e w1 ⟨rfl, q, rfl⟩
    go_wp2_with fail
    refine (Hc.out _).mono ?_
    rintro e w2 ⟨rfl, hb2⟩
    go_wp2_with fail
    go_ret2
    exact ⟨⟨a, a, by rw [H1.out]; rfl, fun x y hxy => ⟨(H2.out x y hxy).2.2.1, (H2.out x y hxy).2.2.2⟩⟩, (below_drewN _ _ _).trans hb2⟩
  · rw [hd] at hcut
    simp only at hcut
    obtain ⟨h1, h2⟩ := ends_two hd
    have hlen := congrArg List.length (dots_len hd)
    simp only [List.length_append, List.length_cons] at hlen
    have hc1 := fun W => field_Code h W (by omega)
    have hc2 := fun W => field_Code t W (by omega)
    rw [show codeI h = (((codeN h).getD 0 : Nat) : Int) from rfl] at hc1
    rw [show codeI t = (((codeN t).getD 0 : Nat) : Int) from rfl] at hc2
    generalize endsN s = R at *
    have H2 := Lib.hid h2
    have Hcut := Lib.hid hcut
    have Hc1 := Lib.hid hc1
    have Hc2 := Lib.hid hc2
    have H1 := Lib.hid h1
    clear h1 h2 hcut hc1 hc2 hd hlen
    generalize (codeN h).isSome = ok at *
    generalize (codeN h).getD 0 = a at *
    generalize (codeN t).isSome = ok2 at *
    generalize (codeN t).getD 0 = b at *
    go_enter Tryz.func183, Tryz.ntmps183
    go_wp2_with fail
    refine Hcut.out.mono ?_
    rintro e w1 ⟨rfl, q, rfl⟩
    go_wp2_with fail
    refine (Hc1.out _).mono ?_
    rintro e w2 ⟨rfl, hb2⟩
    go_wp2_with fail
    refine (Hc2.out _).mono ?_
    rintro e w3 ⟨rfl, hb3⟩
    have hbq := ((below_drewN w.heap.size w q).trans hb2).trans (hb3.mono hb2.size)
    rcases ok with _ | _
    · go_wp2_with fail
      go_ret2
      exact ⟨⟨a, b, by rw [H1.out]; rfl, fun x y hxy => ⟨(H2.out x y hxy).2.2.1, (H2.out x y hxy).2.2.2⟩⟩, hbq⟩
    · go_wp2_with fail
      go_ret2
      exact ⟨⟨a, b, by rw [H1.out]; rfl, fun x y hxy => ⟨(H2.out x y hxy).2.2.1, (H2.out x y hxy).2.2.2⟩⟩, hbq⟩

end Go.Vir


/- The walks of field: trimmed, record. -/
namespace Go.Vir
open Go Go.RowKit Go.Proofs Go.Shelf
attribute [local go_sem] Oper.semAt_some

theorem own_fresh1 {w : World} {base e n c m : Nat} {A : Option Addr} {xs : List Value} (h : w.ownsRow base e 1 (.slice A n c) m xs) : Fresh base A n := fun hn => by
  rcases h.2 with ⟨h1, _⟩ | ⟨g, cap, cur, h1, h2, _⟩
  · injection h1 with _ h3 _; omega
  · injection h1 with h3 _ _
    exact ⟨g, 0, h3, h2⟩

set_option maxRecDepth 100000 in
set_option maxHeartbeats 1600000 in
theorem field_trimmed (A : Option Addr) (n c : Nat) (ss : List (List UInt8)) (w : World) (hz : Strs w w.heap.size A n ss) (hn : n ≤ 1000000) (hs : ∀ x ∈ ss, x.length ≤ 1000000) :
    Calls Tryz.prog 182 #[.slice A n c] w fun e w' => (∃ A' n' c', e = .returned (.slice A' n' c') ∧ n' ≤ c' ∧ Strs w' w'.heap.size A' n' (ss.map trimL) ∧ Fresh w.heap.size A' n') ∧ Below w.heap.size w w' := by
  obtain ⟨i0, hi0, hz0, hz1, hz2⟩ := info_parts str_info
  have Hlen := Lib.hid hz.len
  have htr := fun (s : List UInt8) (h : s ∈ ss) W => trim_blanks s W (hs s h)
  have Htr := Lib.hid htr
  clear htr hs
  go_enter Tryz.func182, Tryz.ntmps182
  go_wp2
  go_loopw [3, 8] (fun v0 i wr => ∃ (k : Nat) (v : Value), v = v0 ∧ k ≤ n ∧ i = .int .i64 (k : Int) ∧ wr.ownsRow w.heap.size 9 1 v ((ss.take k).map trimL).length (strVs ((ss.take k).map trimL)) ∧ Below w.heap.size w wr) (fun _ i _ => n - (RowKit.intOf i).toNat)
  case atStart => exact ⟨0, _, rfl, Nat.zero_le _, rfl, by simpa [strVs] using World.ownsRow_nil _ _ _ _, Below.refl _ _⟩
  case round =>
    obtain ⟨k, v, rfl, hk, rfl, hown, hbr⟩ := hrel
    rcases Nat.lt_or_ge k n with hlt | hge
    · obtain ⟨zb, zo, rfl, hzb, hzc⟩ := hz.at_ (by omega)
      have hkl : k < ss.length := by rw [Hlen.out]; exact hlt
      have z1 := (cellOf hbr hzb).trans (hzc k hkl)
      have htk : (ss.take (k + 1)).map trimL = (ss.take k).map trimL ++ [trimL ss[k]] := by rw [List.take_succ_eq_append_getElem hkl, List.map_append]; rfl
      have Htk := Lib.hid htk
      have htr := Htr.out ss[k] (List.getElem_mem hkl)
      have Ht1 := Lib.hid htr
      have hll : ((ss.take k).map trimL).length ≤ 1000000 := by simp; omega
      clear hzc htk htr
      generalize ss[k] = s at *
      go_wp2_with fail
      refine (Ht1.out _).mono ?_
      rintro e w4 ⟨rfl, hb4⟩
      have hb5 := hbr.trans (hb4.mono hbr.size)
      have hown1 := (ownsRow_below hown hb4).alloc (.cells #[.string ⟨(trimL s).toArray⟩] 9)
      have Hcs := Lib.hid (cell_one_new w4 (.string ⟨(trimL s).toArray⟩) 9)
      have hbA : Below w.heap.size w (w4.alloc (.cells #[.string ⟨(trimL s).toArray⟩] 9)) := hb5.alloc hb5.size _
      have Hlt := Lib.hid (ownsRow_below hown hb4).lt
      have hbs := hb5.size
      clear hown hbr hb4
      go_wp2_with (at_builtin; refine wpList_append_at _ rfl _ _ 22 rfl w.heap.size 9 i0 (.string ⟨#[]⟩) 1 16 Tryz.underlying22 hi0 hz0 hz1 hz2 rfl (by decide) _ _ _ rfl hown1 ⟨w4.heap.size, 0, none⟩ 1 1 [.string ⟨(trimL s).toArray⟩] rfl rfl Hcs.out (by simp [Value.oneCell']) (by simp only [maxLen]; omega) (by omega) (by simp; omega) ?_; intro v' w5 hown5 hgrow hat)
      have hbr5 : Below w.heap.size w w5 := hbA.grown hgrow (by simp; omega) (fun g hg => (Hlt.out g hg).1)
      have hown6 : w5.ownsRow w.heap.size 9 1 v' ((ss.take (k + 1)).map trimL).length (strVs ((ss.take (k + 1)).map trimL)) := by
        rw [Htk.out, List.length_append]
        simpa [strVs] using hown5
      go_roundw
      case rel => exact ⟨k + 1, _, rfl, by omega, by go_num, hown6, hbr5⟩
      case measure => simp [RowKit.intOf]; omega
    · rw [List.take_of_length_le (by rw [Hlen.out]; exact hge)] at hown
      obtain ⟨A', n', c', rfl, hn', hnc', hS⟩ := slice_own hown
      have HS := Lib.hid hS
      have hfr := own_fresh1 hown
      have Hfr := Lib.hid hfr
      clear hS hown hn' hfr
      go_wp2_with fail
      go_ret
      exact ⟨⟨A', n', c', rfl, hnc', HS.out, Hfr.out⟩, hbr⟩

theorem Strs.tail {w : World} {B b o n : Nat} {l : List (List UInt8)} (h : Strs w B (some ⟨b, o, none⟩) n l) (hn : 0 < n) : Strs w B (some ⟨b, o + 1, none⟩) (n - 1) l.tail := by
  have hl := h.len
  refine ⟨by rw [List.length_tail, hl], fun _ => ?_⟩
  obtain ⟨b', o', e, hb, hc⟩ := h.at_ hn
  obtain ⟨rfl, rfl⟩ : b = b' ∧ o = o' := by simpa using e
  refine ⟨b, o + 1, rfl, hb, fun j hj => ?_⟩
  rw [List.length_tail] at hj
  have := hc (j + 1) (by omega)
  rw [show o + (j + 1) = o + 1 + j by omega] at this
  rw [List.getElem_tail]
  exact this
theorem Fresh.tail {B0 b o n : Nat} (h : Fresh B0 (some ⟨b, o, none⟩) n) (hn : 0 < n) (m : Nat) : Fresh B0 (some ⟨b, o + 1, none⟩) m := fun _ => by
  obtain ⟨b', o', e, hb⟩ := h hn
  obtain ⟨rfl, rfl⟩ : b = b' ∧ o = o' := by simpa using e
  exact ⟨b, o + 1, rfl, hb⟩
/-- How the reading of a line ends. -/
def RecEnd (B0 : Nat) (r : LineR) (e : Ending) (w' : World) : Prop := match r with
  | .none => e = .returned (.tuple #[.pointer none, .nilIface])
  | .bad why => e = .returned (.tuple #[.pointer none, .iface 215 (.agg #[.int .i64 why])])
  | .rcd a b fs => ∃ rb A n c, e = .returned (.tuple #[.pointer (some ⟨rb, 0, none⟩), .nilIface]) ∧ w'.heap[rb]? = some (.cells #[.int .i64 0, .int .i64 (a : Int), .int .i64 (b : Int), .slice A n c] 82 (0, 0)) ∧ Strs w' rb A n fs ∧ n ≤ c ∧ Fresh B0 A n ∧ B0 ≤ rb

theorem run_toInt (a : Nat) (h : a < 16777216) (W : World) : (convert 250 3 (.float .f64 (FF a))).run Tryz.prog W = .ok (.int .i64 (a : Int)) W := by
  refine run_convert_float_int W 250 3 .f64 .i64 (FF a) (a : Int) (by kernel_rfl) Tryz.underlying3 ?_
  unfold floatToIntVal
  rw [toInt_FF a h]
  simp only
  rw [if_pos ⟨by show (-9223372036854775808 : Int) ≤ _; omega, by show _ ≤ (9223372036854775807 : Int); omega⟩]

set_option maxRecDepth 100000 in
set_option maxHeartbeats 3200000 in
theorem field_record (s : List UInt8) (w : World) (hG : ∃ m, w.cell? ⟨9, 0, none⟩ = some (.int .i64 m)) (hgl : 9 < w.heap.size) (hs : s.length ≤ 100000) :
    Calls Tryz.prog 172 #[.string ⟨s.toArray⟩] w fun e w' => RecEnd w.heap.size (lineN s) e w' ∧ Below w.heap.size w w' := by
  obtain ⟨mm, hmm⟩ := hG
  have Hmm := Lib.hid hmm
  have hcut := Tryz.strings_Cut ⟨s.toArray⟩ ⟨#[35]⟩ mm w (by have := Lib.size_eq ⟨s.toArray⟩; simp at this ⊢; omega) hmm
  have he : (Lib.cut (⟨s.toArray⟩ : ByteArray).data.toList (⟨#[35]⟩ : ByteArray).data.toList).1 = hashL s := by
    rw [show (⟨s.toArray⟩ : ByteArray).data.toList = s by simp]; exact cut_hash s
  rw [he] at hcut
  generalize (Lib.cut (⟨s.toArray⟩ : ByteArray).data.toList (⟨#[35]⟩ : ByteArray).data.toList).2 = c2 at hcut
  have htr := fun W => trim_blanks (hashL s) W (by have := hash_len s; omega)
  have htl : (trimL (hashL s)).length ≤ 100000 := by have := trimL_len (hashL s); have := hash_len s; omega
  obtain ⟨L, hL⟩ : ∃ L, lineN s = L := ⟨_, rfl⟩
  rw [hL]
  unfold lineN at hL
  generalize trimL (hashL s) = u at htr htl hL
  have HL := Lib.hid hL
  have Htr := Lib.hid htr
  have Hcut := Lib.hid hcut
  clear hL htr hcut he
  go_enter Tryz.func172, Tryz.ntmps172
  go_wp2_with fail
  refine wp_scope_once ?_
  generalize hQl : landed _ _ _ = Ql
  go_wp2_with fail
  refine Hcut.out.mono ?_
  rintro e w1 ⟨rfl, q, rfl⟩
  go_wp2_with fail
  refine (Htr.out _).mono ?_
  rintro e w2 ⟨rfl, hb2⟩
  have hb3 := (below_drewN w.heap.size w q).trans hb2
  have hm2 := (cellOf hb3 hgl).trans hmm
  clear hb2 hmm
  by_cases hu : u = []
  · have hl : L = .none := by rw [← HL.out, if_pos hu]
    have Hl := Lib.hid hl
    subst hu
    clear hl
    go_wp2_with fail
    subst hQl
    rw [landed_ret]
    go_ret2
    exact ⟨by rw [Hl.out]; rfl, hb3⟩
  · have hue : u.isEmpty = false := by cases u with | nil => exact absurd rfl hu | cons a b => rfl
    have hL2 := HL.out
    rw [if_neg hu] at hL2
    have hne : (splitL 59 u).map trimL ≠ [] := by
      have := splitL_ne 59 u
      simpa using this
    have hsp := split_by 59 u mm w2 (by omega) hm2
    have hmem : ∀ x ∈ splitL 59 u, x.length ≤ 100000 := fun x hx => by have := (splitL_mem 59 u x hx).1; omega
    have hsl := splitL_length 59 u
    have hlm : ∀ x ∈ (splitL 59 u).map trimL, x.length ≤ 100000 := fun x hx => by
      obtain ⟨y, hy, rfl⟩ := List.mem_map.1 hx
      have := hmem y hy
      have := trimL_len y
      omega
    have htm := fun A n (hn : n ≤ 1000000) c W (hz : Strs W W.heap.size A n (splitL 59 u)) => field_trimmed A n c (splitL 59 u) W hz hn (fun x hx => by have := hmem x hx; omega)
    have hln : ∀ A n B W, Strs W B A n (splitL 59 u) → n ≤ 100001 := fun A n B W h => by have := h.len; omega
    generalize (splitL 59 u).map trimL = l at *
    generalize splitL 59 u = l0 at *
    have Hsp := Lib.hid hsp
    have Htm := Lib.hid htm
    have HL2 := Lib.hid hL2
    have Hln := Lib.hid hln
    have h0l : 0 < l.length := by cases l with | nil => exact absurd rfl hne | cons a b => simp
    have hh0 : l.headD [] = l[0] := by cases l with | nil => exact absurd rfl hne | cons a b => rfl
    have hl0 := hlm l[0] (List.getElem_mem h0l)
    have hen := fun W hW => field_ends l[0] W hW (by omega)
    have Hen := Lib.hid hen
    have Hh0 := Lib.hid hh0
    clear hsp htm hL2 hln hmem hsl hlm hne hen hh0 HL hm2
    go_wp2_with fail
    refine Hsp.out.mono ?_
    rintro e w3 ⟨A3, n3, rfl, hS3, hb4⟩
    have hn3 := Hln.out _ _ _ _ hS3
    have hb5 := hb3.trans (hb4.mono hb3.size)
    go_wp2_with fail
    refine (Htm.out _ _ (by omega) _ _ hS3).mono ?_
    rintro e w4 ⟨⟨A4, n4, c4, rfl, hnc4, hS4, hf4⟩, hb6⟩
    have hb7 := hb5.trans (hb6.mono hb5.size)
    have hlen4 := hS4.len
    have hn4 : 0 < n4 := by omega
    obtain ⟨b4, o4, rfl, hb4l, hc4⟩ := hS4.at_ hn4
    have z0 := hc4 0 h0l
    simp only [Nat.add_zero] at z0
    have hS4' := hS4
    have hf4' : Fresh w.heap.size (some ⟨b4, o4, none⟩) n4 := hf4.less hb5.size
    clear hc4 hS3 hS4 hf4 hb4 hb6 Hsp Htm Hln
    have HS4 := Lib.hid hS4'
    have Hf4 := Lib.hid hf4'
    have Hlen4 := Lib.hid hlen4
    clear hS4' hf4' hlen4
    have hme := Hen.out w4 ⟨mm, (cellOf hb7 hgl).trans Hmm.out⟩
    have Hme := Lib.hid hme
    clear hme Hen
    have hb4l' := hb4l
    go_wp2_with fail
    refine Hme.out.mono ?_
    rintro e w5 ⟨⟨a, b, rfl, hab⟩, hb8⟩
    have hb9 := hb7.trans (hb8.mono hb7.size)
    have hL3 := HL2.out
    rw [Hh0.out] at hL3
    clear z0 HL2 Hh0 Hme
    rcases hen : endsN l[0] with _ | ⟨x, y⟩
    · rw [hen] at hL3
      simp only at hL3
      have HL3 := Lib.hid hL3
      clear hL3 hen hab
      simp only [Option.isSome_none]
      go_wp2_with fail
      go_step3
      go_simp
      subst hQl
      refine landed_goto (by rfl) ?_
      go_wp2_with fail
      try rw [Exit.noGoto_ret]
      go_ret2
      exact ⟨by rw [← HL3.out]; rfl, hb9⟩
    · have hlt := endsN_lt hen
      rw [hen] at hL3 hab
      simp only at hL3
      obtain ⟨rfl, rfl⟩ := hab x y rfl
      have HL3 := Lib.hid hL3
      obtain ⟨hx, hy⟩ := hlt
      have h1 := lt_FF b a hy hx
      have h2 := gt_FF b 1114111 hy (by omega)
      rw [FF_max] at h2
      clear hL3 hen hab
      simp only [Option.isSome_some]
      rcases (by omega : b < a ∨ (¬ b < a ∧ 1114111 < b) ∨ (¬ b < a ∧ ¬ 1114111 < b)) with hc | ⟨hc, hc'⟩ | ⟨hc, hc'⟩
      · have hL4 := HL3.out
        rw [if_pos (.inl hc)] at hL4
        have HL4 := Lib.hid hL4
        rw [decide_eq_true hc] at h1
        clear hL4 HL3 h2
        go_wp2_with fail
        go_step3
        go_simp
        subst hQl
        refine landed_goto (by rfl) ?_
        go_wp2_with fail
        try rw [Exit.noGoto_ret]
        go_ret2
        exact ⟨by rw [← HL4.out]; rfl, hb9⟩
      · have hL4 := HL3.out
        rw [if_pos (.inr hc')] at hL4
        have HL4 := Lib.hid hL4
        rw [decide_eq_false hc] at h1
        rw [decide_eq_true hc'] at h2
        clear hL4 HL3
        go_wp2_with fail
        go_step3
        go_simp
        subst hQl
        refine landed_goto (by rfl) ?_
        go_wp2_with fail
        try rw [Exit.noGoto_ret]
        go_ret2
        exact ⟨by rw [← HL4.out]; rfl, hb9⟩
      · have hL4 := HL3.out
        rw [if_neg (by omega)] at hL4
        rw [decide_eq_false hc] at h1
        rw [decide_eq_false hc'] at h2
        have hnl : n4 = l.length := Hlen4.out.symm
        rcases (by omega : l.length < 2 ∨ (¬ l.length < 2 ∧ 21 < l.length) ∨ (¬ l.length < 2 ∧ ¬ 21 < l.length)) with hd | ⟨hd, hd'⟩ | ⟨hd, hd'⟩
        · rw [if_pos (.inl hd)] at hL4
          have HL4 := Lib.hid hL4
          have hd2 : n4 < 2 := by omega
          clear hL4 HL3 hnl
          go_wp2_with fail
          go_step3
          go_simp
          subst hQl
          refine landed_goto (by rfl) ?_
          go_wp2_with fail
          try rw [Exit.noGoto_ret]
          go_ret2
          exact ⟨by rw [← HL4.out]; rfl, hb9⟩
        · rw [if_pos (.inr hd')] at hL4
          have HL4 := Lib.hid hL4
          have hd2 : ¬ n4 < 2 := by omega
          have hd3 : 21 < n4 := by omega
          clear hL4 HL3 hnl
          go_wp2_with fail
          go_step3
          go_simp
          subst hQl
          refine landed_goto (by rfl) ?_
          go_wp2_with fail
          try rw [Exit.noGoto_ret]
          go_ret2
          exact ⟨by rw [← HL4.out]; rfl, hb9⟩
        · rw [if_neg (by omega)] at hL4
          have HL4 := Lib.hid hL4
          have hd2 : ¬ n4 < 2 := by omega
          have hd3 : ¬ 21 < n4 := by omega
          have hc1 : ¬ c4 = 1 := by omega
          have hc2 : 1 ≤ n4 := by omega
          have hcv1 := run_toInt a hx
          have hcv2 := run_toInt b hy
          clear hL4 HL3 hnl
          go_wp2_with fail
          subst hQl
          rw [landed_ret]
          go_ret2
          rw [← HL4.out]
          refine ⟨⟨w5.heap.size, some ⟨b4, o4 + 1, none⟩, n4 - 1, c4 - 1, rfl, heap_new rfl, ?_, by omega, ?_, hb9.size⟩, hb9.alloc hb9.size _⟩
          · exact (((HS4.out.tail hn4).below hb8).more hb8.size).below ((Below.refl _ w5).alloc (Nat.le_refl _) _)
          · exact Hf4.out.tail hn4 _
end Go.Vir


/- Loops over a function whose arguments, and what it writes, hang on what the round wrote: the law of one range statement. No program. -/
namespace Go.Vir
open Go Go.RowKit

/-- What a round keeps: all below B0, all data below F but in the blocks of O, all that is no data. -/
structure KeepE (O : Nat → Prop) (B0 F : Nat) (A B : World) : Prop where
  size : A.heap.size ≤ B.heap.size
  low : ∀ k : Nat, k < B0 → B.heap[k]? = A.heap[k]?
  data : ∀ (k : Nat) (o : Obj), k < F → ¬ O k → A.heap[k]? = some o → isData o = true → B.heap[k]? = some o
  other : ∀ (k : Nat) (o : Obj), A.heap[k]? = some o → isData o = false → B.heap[k]? = some o
section
variable {O : Nat → Prop} {B0 F : Nat} {A B C : World}
theorem KeepE.refl (O : Nat → Prop) (B0 F : Nat) (A : World) : KeepE O B0 F A A := ⟨Nat.le_refl _, fun _ _ => rfl, fun _ _ _ _ h _ => h, fun _ _ h _ => h⟩
theorem KeepE.trans (h : KeepE O B0 F A B) (k : KeepE O B0 F B C) : KeepE O B0 F A C :=
  ⟨Nat.le_trans h.size k.size, fun i hi => (k.low i hi).trans (h.low i hi), fun i o hF hO hi hd => k.data i o hF hO (h.data i o hF hO hi hd) hd, fun i o hi hd => k.other i o (h.other i o hi hd) hd⟩
theorem KeepE.below (hB : B0 ≤ A.heap.size) (h : Below A.heap.size A B) : KeepE O B0 F A B :=
  ⟨h.size, fun k hk => h.block k (by omega), fun k o _ _ hk _ => (h.block k (Array.getElem?_eq_some_iff.1 hk).1).trans hk, fun k o hk _ => (h.block k (Array.getElem?_eq_some_iff.1 hk).1).trans hk⟩
theorem KeepE.setCell (A : World) {p : Addr} (hp : O p.block ∨ F ≤ p.block) (hB : B0 ≤ p.block) (u : Value) : KeepE O B0 F A (A.setCell p u) :=
  ⟨by simp [World.setCell], fun k hk => Below.heap_setCell _ _ _ _ (by omega), fun k o hk ho hi _ => (Below.heap_setCell _ _ _ _ (fun e => by
      subst e
      rcases hp with h | h
      · exact ho h
      · omega)).trans hi, fun k o hk hd => by
    by_cases e : k = p.block
    · subst e
      simp only [World.setCell, Array.getElem?_modify, if_true, hk, Option.map_some]
      cases o <;> first | rfl | (simp [isData] at hd)
    · exact (Below.heap_setCell _ _ _ _ e).trans hk⟩
theorem KeepE.grown {row : Option Nat} (hB : B0 ≤ A.heap.size) (hg : A.grownBy B row)
    (hr : ∀ k, row = some k → B0 ≤ k ∧ (O k ∨ F ≤ k) ∧ ∃ o, A.heap[k]? = some o ∧ isData o = true) : KeepE O B0 F A B :=
  ⟨hg.size, fun k hk => hg.block k (by omega) (fun e => by have := (hr k e.symm).1; omega),
   fun k o hk ho hi _ => (hg.block k (Array.getElem?_eq_some_iff.1 hi).1 (fun e => by
     rcases (hr k e.symm).2.1 with h | h
     · exact ho h
     · omega)).trans hi,
   fun k o hk hd => (hg.block k (Array.getElem?_eq_some_iff.1 hk).1 (fun e => by
     obtain ⟨_, _, o', h1, h2⟩ := hr k e.symm
     rw [hk] at h1; cases h1; rw [hd] at h2; cases h2)).trans hk⟩
theorem KeepE.any (h : KeepE O B0 F A B) : KeepE (fun _ => True) 0 0 A B := ⟨h.size, fun k hk => absurd hk (by omega), fun k _ hk => absurd hk (by omega), h.other⟩
theorem KeepE.cell (h : KeepE O B0 F A B) {k o : Nat} {v : Value} (hk : k < F) (ho : ¬ O k) (hc : A.cell? ⟨k, o, none⟩ = some v) : B.cell? ⟨k, o, none⟩ = some v := by
  rcases hb : A.heap[k]? with _ | ob
  · simp [World.cell?, hb] at hc
  · cases ob with
    | cells cs t m => exact (World.cell?_of_block (a := ⟨k, o, none⟩) ((h.data k _ hk ho hb rfl).trans hb.symm)).trans hc
    | _ => simp [World.cell?, hb] at hc
end

/-- The contract of an iterator: N rounds, round i with arguments of which Ev holds; Rd is what it wants of the world, M how it moves it between two rounds. -/
def IterE (P : Program) (gf : Nat) (lb : Array Value) (N : Nat) (Rd : Nat → World → Prop) (Ev : Nat → Array Value → World → World → Prop) (M : World → World → Prop) (O : Nat → Prop) (B0 : Nat) (W0 : World) : Prop :=
  ∀ (l : Nat) (J : Nat → Nat → World → Prop) (Jx : Nat → World → Prop) (W : World), Below W0.heap.size W0 W →
    (∀ F i A, J F i A → Rd i A) → (∀ F i A B, J F i A → M A B → J F i B) →
    (∀ F i xs A W', i < N → W.heap.size ≤ F → F ≤ A.heap.size → J F i A → M A W' → Ev i xs A W' → YieldAt Fence.wide 0 P l xs W' fun e W'' =>
      (e = .returned (.bool true) ∧ J F (i + 1) W'' ∧ KeepE O B0 F W' W'') ∨ (e = .returned (.bool false) ∧ Jx i W'')) →
    (∀ F, W.heap.size ≤ F → J F 0 W) → CallsIn Fence.wide 0 P gf (#[.func (.yield l) #[] #[]] ++ lb) W fun e W' => (∃ v, e = .returned v) ∧ ((∃ F, J F N W') ∨ ∃ i, i < N ∧ Jx i W')

/-- How a round's body may be left. -/
def roundE (O : Nat → Prop) (B0 F : Nat) (I : Nat → Nat → World → Prop) (Ix : Nat → Code → World → Prop) (i : Nat) (W : World) : Exit → Act → World → Prop
  | .normal, _, W' => KeepE O B0 F W W' ∧ I F (i + 1) W'
  | .ret, _, W' => KeepE (fun _ => True) 0 0 W W' ∧ Ix i .ret W'
  | .exit id, _, W' => KeepE (fun _ => True) 0 0 W W' ∧ Ix i (.exit id) W'
  | .goto t, _, W' => KeepE (fun _ => True) 0 0 W W' ∧ Ix i (.goto t) W'
  | .panic _, _, _ => False
  | .outgrown, _, _ => False

theorem range_lawE {P : Program} {g : Operand} {ps : Array Tmp} {assign body : Code} {Q : Exit → Act → World → Prop} {a : Act} {w : World}
    {gf : Nat} {lb : Array Value} {N : Nat} {Rd : Nat → World → Prop} {Ev : Nat → Array Value → World → World → Prop} {M : World → World → Prop} {O : Nat → Prop} {B0 : Nat} {W0 : World}
    (hg : a.eval g = .func (.func gf) #[] lb) (eg : ∀ args w, (callFunc gf args).run P w = .ok (.enter gf args) w)
    (hit : IterE P gf lb N Rd Ev M O B0 W0) (hb0 : Below W0.heap.size W0 w) (hB0 : B0 ≤ w.heap.size)
    (hM : ∀ A B, M A B → ∀ (k : Nat) (o : Obj), A.heap[k]? = some o → isData o = false → B.heap[k]? = some o)
    (hMs : ∀ A B, M A B → A.heap.size ≤ B.heap.size) (hps : ∀ i xs A W, Ev i xs A W → xs.size = ps.size)
    (I : Nat → Nat → World → Prop) (Ix : Nat → Code → World → Prop) (Ib : Nat → Nat → Act → World → Prop)
    (hIR : ∀ F i A, I F i A → Rd i A) (hIM : ∀ F i A B, I F i A → M A B → I F i B)
    (hIP : ∀ F i A l o o', w.heap.size ≤ l → l < F → A.heap[l]? = some o → isData o = false → I F i A → I F i (A.putObj l o'))
    (hIbP : ∀ F i a A l o o', w.heap.size ≤ l → l < F → A.heap[l]? = some o → isData o = false → Ib F i a A → Ib F i a (A.putObj l o'))
    (hIxP : ∀ i c A l o o', w.heap.size ≤ l → A.heap[l]? = some o → isData o = false → Ix i c A → Ix i c (A.putObj l o'))
    (h0 : ∀ F W, w.heap.size + 2 ≤ F → Below w.heap.size w W → I F 0 W)
    (hassign : ∀ (l F i : Nat) (xs : Array Value) (A W : World) (K : Act → World → Prop), i < N → w.heap.size + 2 ≤ F → F ≤ A.heap.size → I F i A → M A W → Ev i xs A W → w.heap.size ≤ W.heap.size → (∀ a' W', Below W.heap.size W W' → Ib F i a' W' → K a' W') →
      assign.wpIn (Fence.wide.inRound l) 0 P (Exit.then K (fun _ _ _ => False)) { tmps := (ps.zip xs).foldl (fun t (p, v) => t.setIfInBounds p v) a.tmps, defers := [] } W)
    (hbody : ∀ (l F i : Nat) (a' : Act) (W : World), i < N → w.heap.size + 2 ≤ F → F ≤ W.heap.size → Ib F i a' W → w.heap.size ≤ W.heap.size → body.wpIn (Fence.wide.inRound l) 0 P (roundE O B0 F I Ix i W) a' W)
    (hdone : ∀ (D F : Nat) (W : World), w.heap.size ≤ D → I F N W → W.heap[D]? = some (.deferred (some [])) → Q .normal { a with defers := { target := .collected D, args := #[] } :: a.defers } W)
    (hstop : ∀ (D i : Nat) (c : Code) (W : World), w.heap.size ≤ D → i < N → Ix i c W → W.heap[D]? = some (.deferred (some [])) → c.wpIn Fence.wide 0 P Q { a with defers := { target := .collected D, args := #[] } :: a.defers } W) :
    (Code.rangeFunc g ps assign body).wpIn Fence.wide 0 P Q a w := by
  refine wpIn_rangeFunc ?_
  intro fn hfn
  obtain ⟨rec, hrec⟩ : ∃ rec : LoopState → Option Code → Loop, rec = fun st pe => { state := st, pending := pe, fn, tmps := a.tmps, params := ps, assign, body, defers := w.heap.size } := ⟨_, rfl⟩
  obtain ⟨W1, hW1⟩ : ∃ W1, (w.alloc (.deferred (some []))).alloc (.loop (rec .ready none)) = W1 := ⟨_, rfl⟩
  have hL1 : W1.heap[w.heap.size + 1]? = some (.loop (rec .ready none)) := by
    rw [← hW1]; have := World.alloc_heap_new (w.alloc (.deferred (some []))) (.loop (rec .ready none)); rwa [World.size_alloc] at this
  have hK1 : W1.heap[w.heap.size]? = some (.deferred (some [])) := by
    rw [← hW1]; exact (Below.heap_alloc _ _ _ (by simp)).trans (World.alloc_heap_new w _)
  have hsz : W1.heap.size = w.heap.size + 2 := by rw [← hW1]; simp
  have hbw : Below w.heap.size w W1 := by rw [← hW1]; exact ((Below.refl _ w).alloc (Nat.le_refl _) _).alloc (by simp) _
  have hb1 : Below W0.heap.size W0 W1 := hb0.trans (hbw.mono hb0.size)
  refine ⟨w.heap.size + 1, [{ target := .collected w.heap.size, args := #[] }], W1, { target := .fn (.func gf) lb, args := #[.func (.yield (w.heap.size + 1)) #[] #[]] }, W1, gf,
    #[.func (.yield (w.heap.size + 1)) #[] #[]] ++ lb, W1, ?_, ?_, ?_, ?_, fun _ => by simp [Fence.wide] at *, ?_⟩
  · rw [← hW1, hrec]; exact run_enterLoop_outer _ _ _ _ _
  · simp only [resolve, hg]
    simp [go_sem]
  · intro f' _; trivial
  · simp [invoke, go_sem, eg]
  · refine (hit (w.heap.size + 1)
      (fun F i W => w.heap.size + 2 ≤ F ∧ w.heap.size + 2 ≤ W.heap.size ∧ I F i W ∧ W.heap[w.heap.size + 1]? = some (.loop (rec .ready none)) ∧ W.heap[w.heap.size]? = some (.deferred (some [])))
      (fun i W => ∃ c, Ix i c W ∧ W.heap[w.heap.size + 1]? = some (.loop (rec .done (some c))) ∧ W.heap[w.heap.size]? = some (.deferred (some [])))
      W1 hb1 ?_ ?_ ?_ ?_).mono ?_
    · rintro F i A ⟨_, _, h1, _⟩
      exact hIR _ _ _ h1
    · rintro F i A B ⟨h0, h1, h2, h3, h4⟩ hm
      have h5 := hM _ _ hm _ _ h3 rfl
      exact ⟨h0, by have := (Array.getElem?_eq_some_iff.1 h5).1; omega, hIM _ _ _ _ h2 hm, h5, hM _ _ hm _ _ h4 rfl⟩
    · rintro F i xs Ao Wo hi hWF hFW ⟨hF, hsza, hi0, hla, hka⟩ hmo hev
      have hlo := hM _ _ hmo _ _ hla rfl
      have hko := hM _ _ hmo _ _ hka rfl
      have hszo := hMs _ _ hmo
      have hlto : w.heap.size + 1 < Wo.heap.size := (Array.getElem?_eq_some_iff.1 hlo).1
      have hy := run_yield (P := P) (args := xs) hlo (by rw [hrec]; exact hps i _ _ _ hev)
      rw [hrec] at hy
      refine ⟨fn, _, assign, body, hy, roundIn_of_wpIn hfn (hassign _ F i xs Ao Wo _ hi hF hFW hi0 hmo hev (by omega) (fun a' W hbw hib => ?_))⟩
      have hl := (hbw.block _ hlto).trans hlo
      have hk := (hbw.block _ (show w.heap.size < Wo.heap.size by omega)).trans hko
      have hlt : w.heap.size + 1 < W.heap.size := (Array.getElem?_eq_some_iff.1 hl).1
      have hkw : KeepE O B0 F Wo W := KeepE.below (by omega) hbw
      refine ⟨_, run_beginRound hl (by rw [hrec]), ?_⟩
      have hl2 : (W.putObj (w.heap.size + 1) (.loop { rec .ready none with state := .busy })).heap[w.heap.size + 1]? = some (.loop { rec .ready none with state := .busy }) := World.putObj_heap_same hlt
      have hk2 : (W.putObj (w.heap.size + 1) (.loop { rec .ready none with state := .busy })).heap[w.heap.size]? = some (.deferred (some [])) := (World.putObj_heap_other (by omega)).trans hk
      refine wpIn_mono (hbody _ F i a' _ hi hF (by have := hbw.size; simp; omega) (hIbP _ _ _ _ _ _ _ (by omega) (by omega) hl rfl hib) (by simp; omega)) ?_
      have fin : ∀ (jump : Option Code) (W3 : World), KeepE (fun _ => True) 0 0 (W.putObj (w.heap.size + 1) (.loop { rec .ready none with state := .busy })) W3 →
          (Instr.endRound (w.heap.size + 1) jump).run P W3 = .ok (.bool jump.isNone) (W3.putObj (w.heap.size + 1) (.loop (rec (if jump.isNone then .ready else .done) jump))) ∧
          W3.heap[w.heap.size + 1]? = some (.loop { rec .ready none with state := .busy }) ∧
          (W3.putObj (w.heap.size + 1) (.loop (rec (if jump.isNone then .ready else .done) jump))).heap[w.heap.size + 1]? = some (.loop (rec (if jump.isNone then .ready else .done) jump)) ∧
          (W3.putObj (w.heap.size + 1) (.loop (rec (if jump.isNone then .ready else .done) jump))).heap[w.heap.size]? = some (.deferred (some [])) := fun jump W3 hk3 => by
        have hl3 := hk3.other _ _ hl2 rfl
        have := run_endRound (P := P) jump hl3
        rw [hrec] at this ⊢
        exact ⟨this, by rw [hrec] at hl3; exact hl3, World.putObj_heap_same (Array.getElem?_eq_some_iff.1 hl3).1, (World.putObj_heap_other (by omega)).trans (hk3.other _ _ hk2 rfl)⟩
      rintro e a3 W3 hp
      cases e with
      | normal =>
        obtain ⟨hk3, hi3⟩ := hp
        obtain ⟨hr, hl3, hl4, hk4⟩ := fin none W3 hk3.any
        have hs3 : w.heap.size + 1 < W3.heap.size := (Array.getElem?_eq_some_iff.1 hl3).1
        refine ⟨_, _, hr, .inl ⟨rfl, ⟨hF, by simp; omega, hIP _ _ _ _ _ _ (by omega) (by omega) hl3 rfl hi3, hl4, hk4⟩, hkw.trans ?_⟩⟩
        refine ⟨by have := hk3.size; simp at this ⊢; omega, fun k hk => ?_, fun k o hkF hO ho hd => ?_, fun k o ho hd => ?_⟩
        · rw [World.putObj_heap_other (by omega), hk3.low k hk, World.putObj_heap_other (by omega)]
        · have e : k ≠ w.heap.size + 1 := by
            rintro rfl
            rw [hl] at ho; cases ho; simp [isData] at hd
          rw [World.putObj_heap_other e]
          exact hk3.data k o hkF hO (by rw [World.putObj_heap_other e]; exact ho) hd
        · by_cases e : k = w.heap.size + 1
          · subst e; rw [hl] at ho; cases ho; exact hl4
          · rw [World.putObj_heap_other e]
            exact hk3.other k o (by rw [World.putObj_heap_other e]; exact ho) hd
      | ret =>
        obtain ⟨hk3, hi3⟩ := hp
        obtain ⟨hr, hl3, hl4, hk4⟩ := fin (some .ret) W3 hk3
        exact ⟨_, _, hr, .inr ⟨rfl, .ret, hIxP _ _ _ _ _ _ (by omega) hl3 rfl hi3, hl4, hk4⟩⟩
      | exit id =>
        obtain ⟨hk3, hi3⟩ := hp
        obtain ⟨hr, hl3, hl4, hk4⟩ := fin (some (.exit id)) W3 hk3
        exact ⟨_, _, hr, .inr ⟨rfl, .exit id, hIxP _ _ _ _ _ _ (by omega) hl3 rfl hi3, hl4, hk4⟩⟩
      | goto t =>
        obtain ⟨hk3, hi3⟩ := hp
        obtain ⟨hr, hl3, hl4, hk4⟩ := fin (some (.goto t)) W3 hk3
        exact ⟨_, _, hr, .inr ⟨rfl, .goto t, hIxP _ _ _ _ _ _ (by omega) hl3 rfl hi3, hl4, hk4⟩⟩
      | panic ch => exact hp.elim
      | outgrown => exact hp.elim
    · exact fun F hF => ⟨by omega, by omega, h0 F W1 (by omega) hbw, hL1, hK1⟩
    · rintro e W2 ⟨⟨v, rfl⟩, (⟨F, hF2, _, hi, hl, hk⟩ | ⟨i, hiN, c, hi, hl, hk⟩)⟩
      · exact ⟨none, _, by have := run_endLoop (P := P) hl (by rw [hrec]; simp); rw [hrec] at this; exact this, hdone _ F _ (Nat.le_refl _) (hIP _ _ _ _ _ _ (by omega) (by omega) hl rfl hi) ((World.putObj_heap_other (by omega)).trans hk)⟩
      · exact ⟨some c, _, by have := run_endLoop (P := P) hl (by rw [hrec]; simp); rw [hrec] at this; exact this, hstop _ i c _ (Nat.le_refl _) hiN (hIxP _ _ _ _ _ _ (by omega) hl rfl hi) ((World.putObj_heap_other (by omega)).trans hk)⟩

end Go.Vir


/- The walks of field: the iterator of a file's lines. -/
namespace Go.Vir
open Go Go.RowKit Go.Proofs Go.Shelf
attribute [local go_sem] Oper.semAt_some

/-- The lines that count, or are wrong, with their numbers. -/
def evsN : List (List UInt8) → Nat → List (Nat × LineR)
  | [], _ => []
  | t :: ts, k => match lineN t with
    | .none => evsN ts (k + 1)
    | r => (k + 1, r) :: evsN ts (k + 1)
theorem evsN_cons (t : List UInt8) (ts : List (List UInt8)) (k : Nat) : evsN (t :: ts) k = match lineN t with
    | .none => evsN ts (k + 1)
    | r => (k + 1, r) :: evsN ts (k + 1) := by rw [evsN]

/-- Between A and B only new blocks, and the second cell of block R, have changed. -/
structure MovR (R : Nat) (A B : World) : Prop where
  os : B.os = A.os
  tape : B.tape = A.tape
  output : B.output = A.output
  size : A.heap.size ≤ B.heap.size
  block : ∀ k : Nat, k < A.heap.size → k ≠ R → B.heap[k]? = A.heap[k]?
  other : ∀ (k : Nat) (o : Obj), A.heap[k]? = some o → isData o = false → B.heap[k]? = some o
  line : ∀ (c l o e : Value) (t : TypeId), A.heap[R]? = some (.cells #[c, l, o, e] t (0, 0)) → ∃ l', B.heap[R]? = some (.cells #[c, l', o, e] t (0, 0))
theorem MovR.refl (R : Nat) (A : World) : MovR R A A := ⟨rfl, rfl, rfl, Nat.le_refl _, fun _ _ _ => rfl, fun _ _ h _ => h, fun _ l _ _ _ h => ⟨l, h⟩⟩
theorem MovR.trans {R : Nat} {A B C : World} (h : MovR R A B) (k : MovR R B C) : MovR R A C :=
  ⟨k.os.trans h.os, k.tape.trans h.tape, k.output.trans h.output, Nat.le_trans h.size k.size, fun i hi hr => (k.block i (Nat.lt_of_lt_of_le hi h.size) hr).trans (h.block i hi hr), fun i o hi hd => k.other i o (h.other i o hi hd) hd,
   fun c l o e t hA => let ⟨_, hB⟩ := h.line c l o e t hA; k.line c _ o e t hB⟩
theorem MovR.below {R : Nat} {A B : World} (hR : R < A.heap.size) (h : Below A.heap.size A B) : MovR R A B :=
  ⟨h.os, h.tape, h.output, h.size, fun k hk _ => h.block k hk, fun k _ hk _ => (h.block k (Array.getElem?_eq_some_iff.1 hk).1).trans hk, fun _ l _ _ _ hA => ⟨l, (h.block R hR).trans hA⟩⟩
theorem MovR.setLine {R : Nat} (A : World) (u : Value) : MovR R A (A.setCell ⟨R, 1, none⟩ u) :=
  ⟨rfl, rfl, rfl, by simp [World.setCell], fun k _ hk => Below.heap_setCell _ _ _ _ hk, fun k o hk hd => (KeepE.setCell (O := fun k => k = R) (B0 := 0) (F := 0) A (p := ⟨R, 1, none⟩) (.inl rfl) (Nat.zero_le _) u).other k o hk hd, fun _ _ _ _ _ hA => ⟨u, by have := setCell_blk hA 1 u; simpa using this⟩⟩
theorem split_at (c : UInt8) (x : List UInt8) (m : Int) (w : World) (hx : x.length ≤ 10000000) (hm : w.cell? ⟨9, 0, none⟩ = some (.int .i64 m)) :
    Calls Tryz.prog 171 #[.string ⟨x.toArray⟩, .string ⟨#[c]⟩] w fun e w' => e = .returned (.slice (some ⟨w.heap.size, 0, none⟩) (splitL c x).length (splitL c x).length) ∧
      w'.heap[w.heap.size]? = some (.cells (strVs (splitL c x)).toArray 9 (0, 0)) ∧ Below w.heap.size w w' := by
  have h := Tryz.strings_Split ⟨x.toArray⟩ ⟨#[c]⟩ m w (by show x.toArray.size < _; simp; omega) hm (Nat.le_refl 1)
  obtain ⟨a1, a2⟩ := splitK_L c _ x (Nat.le_refl _)
  have hd := Lib.splitB_data ⟨#[c]⟩ 0 (Lib.countB ⟨x.toArray⟩ ⟨#[c]⟩) ⟨x.toArray⟩
  have hd2 : (Lib.splitB ⟨#[c]⟩ 0 (Lib.countB ⟨x.toArray⟩ ⟨#[c]⟩) ⟨x.toArray⟩).map (·.data.toList) = splitL c x := hd.trans a1
  have hc : Lib.countB ⟨x.toArray⟩ ⟨#[c]⟩ + 1 = (splitL c x).length := a2
  rw [hc] at h
  refine h.mono ?_
  rintro e w' ⟨rfl, rfl⟩
  refine ⟨rfl, ?_, (Below.refl _ _).alloc (Nat.le_refl _) _⟩
  rw [World.alloc_heap_new]
  generalize Lib.splitB ⟨#[c]⟩ 0 (Lib.countB ⟨x.toArray⟩ ⟨#[c]⟩) ⟨x.toArray⟩ = L at *
  rw [← hd2]
  simp [strVs]

/-- What the iterator yields. -/
def EvN (E : List (Nat × LineR)) (R : Nat) (i : Nat) (xs : Array Value) (m : Nat) (W : World) : Prop :=
  ∃ (l : Nat) (r : LineR) (c o e : Value), E[i]? = some (l, r) ∧ W.heap[R]? = some (.cells #[c, .int .i64 (l : Int), o, e] 180 (0, 0)) ∧ match r with
    | .none => False
    | .bad why => xs = #[.pointer none, .iface 215 (.agg #[.int .i64 why])]
    | .rcd a b fs => ∃ rb A' n c, xs = #[.pointer (some ⟨rb, 0, none⟩), .nilIface] ∧ W.heap[rb]? = some (.cells #[.int .i64 0, .int .i64 (a : Int), .int .i64 (b : Int), .slice A' n c] 82 (0, 0)) ∧ Strs W rb A' n fs ∧ n ≤ c ∧ Fresh m A' n ∧ m ≤ rb
def RdN (s : List UInt8) (R : Nat) (W : World) : Prop := ∃ l o e : Value, W.heap[R]? = some (.cells #[.string ⟨s.toArray⟩, l, o, e] 180 (0, 0))

theorem lines_make (R : Nat) (w : World) :
    Calls Tryz.prog 151 #[.pointer (some ⟨R, 0, none⟩)] w fun e w' =>
      e = .returned (.func (.func 170) #[] #[.pointer (some ⟨w.heap.size, 0, none⟩)]) ∧ w.alloc (.cells #[.pointer (some ⟨R, 0, none⟩)] 176) = w' := by
  go_enter Tryz.func151, Tryz.ntmps151
  go_wp2
  go_ret
  exact ⟨rfl, rfl⟩

set_option maxRecDepth 100000 in
set_option maxHeartbeats 3200000 in
theorem lines_iter (R b B0 : Nat) (s : List UInt8) (W0 : World) (hG : ∃ m, W0.cell? ⟨9, 0, none⟩ = some (.int .i64 m)) (hgl : 9 < B0)
    (hR : B0 ≤ R) (hb : R < b) (hsz : b < W0.heap.size) (hl : s.length ≤ 100000) (c0 : W0.heap[b]? = some (.cells #[.pointer (some ⟨R, 0, none⟩)] 176 (0, 0))) :
    IterE Tryz.prog 170 #[.pointer (some ⟨b, 0, none⟩)] (evsN (splitL 10 s) 0).length (fun _ => RdN s R) (fun i xs A W => EvN (evsN (splitL 10 s) 0) R i xs A.heap.size W) (MovR R) (fun k => k = R) B0 W0 := by
  intro l J Jx W hW hJR hJM hY h0
  obtain ⟨mm, hmm⟩ := hG
  have hWs := hW.size
  have hmW : W.cell? ⟨9, 0, none⟩ = some (.int .i64 mm) := (cellOf hW (by omega)).trans hmm
  have b0 := (hW.block b hsz).trans c0
  have hsp := split_at 10 s mm W (by omega) hmW
  have hmem : ∀ t ∈ splitL 10 s, t.length ≤ 100000 := fun t ht => by have := (splitL_mem 10 s t ht).1; omega
  have hsl := splitL_length 10 s
  obtain ⟨l0, o0, e0, hr0⟩ := hJR _ _ _ (h0 _ (Nat.le_refl _))
  generalize splitL 10 s = ls at *
  have Hsp := Lib.hid hsp
  have Hmem := Lib.hid hmem
  have HJR := Lib.hid hJR
  have HJM := Lib.hid hJM
  have HY := Lib.hid hY
  have Hmm := Lib.hid hmW
  have H0 := Lib.hid h0
  have hbc : W.cell? ⟨b, 0, none⟩ = some (.pointer (some ⟨R, 0, none⟩)) := cell_blk b0 0
  have hrc : W.cell? ⟨R, 0, none⟩ = some (.string ⟨s.toArray⟩) := cell_blk hr0 0
  clear hsp hmem hJR hJM hY h0 hmm hmW
  refine callsIn_wide.2 ?_
  go_enter Tryz.func170, Tryz.ntmps170
  go_step3
  go_wp2
  go_step3
  go_wp2_with fail
  refine Hsp.out.mono ?_
  rintro e w4 ⟨rfl, hrow, hb4⟩
  have hs4 : W.heap.size < w4.heap.size := (Array.getElem?_eq_some_iff.1 hrow).1
  have hJ0 := HJM.out _ _ _ _ (H0.out w4.heap.size (by omega)) (MovR.below (R := R) (by omega) hb4)
  have b4 := (hb4.block b (by omega)).trans b0
  have hm4 : ∃ m, w4.cell? ⟨9, 0, none⟩ = some (.int .i64 m) := ⟨mm, (cellOf hb4 (by omega)).trans Hmm.out⟩
  go_wp2_with fail
  go_loopw [14] (fun v wr => ∃ (k i : Nat), k ≤ ls.length ∧ v = .int .i64 (k : Int) ∧ i ≤ (evsN ls 0).length ∧ (evsN ls 0).drop i = evsN (ls.drop k) k ∧ J w4.heap.size i wr ∧ w4.heap.size ≤ wr.heap.size ∧
    (∃ m, wr.cell? ⟨9, 0, none⟩ = some (.int .i64 m)) ∧ wr.heap[b]? = some (.cells #[.pointer (some ⟨R, 0, none⟩)] 176 (0, 0)) ∧ wr.heap[W.heap.size]? = some (.cells (strVs ls).toArray 9 (0, 0))) (fun v _ => ls.length - (RowKit.intOf v).toNat)
  case atStart => exact ⟨0, 0, by omega, rfl, by omega, by simp, hJ0, Nat.le_refl _, hm4, b4, hrow⟩
  case round =>
    obtain ⟨k, i, hk, rfl, hi, hev, hJ, hsz4, ⟨m5, hm5⟩, hbr, hrw⟩ := hrel
    obtain ⟨l1, o1, e1, hR1⟩ := HJR.out _ _ _ hJ
    have hbc : wr.cell? ⟨b, 0, none⟩ = some (.pointer (some ⟨R, 0, none⟩)) := cell_blk hbr 0
    rcases Nat.lt_or_ge k ls.length with hlt | hge
    · have hrk : wr.cell? ⟨W.heap.size, k, none⟩ = some (.string ⟨(ls[k]'hlt).toArray⟩) := by
        rw [cell_blk hrw]; simp [strVs, hlt]
      have hk1 : wr.cell? ⟨R, 1, none⟩ = some l1 := cell_blk hR1 1
      have hf1 : wr.frozen? ⟨R, 1, none⟩ = false := frozen_blk hR1 1
      have hmv := MovR.setLine (R := R) wr (.int .i64 ((k : Int) + 1))
      have hR2 := setCell_blk hR1 1 (.int .i64 ((k : Int) + 1))
      simp only [List.setIfInBounds_toArray, List.set_cons_succ, List.set_cons_zero] at hR2
      have hm6 : (wr.setCell ⟨R, 1, none⟩ (.int .i64 ((k : Int) + 1))).cell? ⟨9, 0, none⟩ = some (.int .i64 m5) := (World.cell?_of_block (a := ⟨9, 0, none⟩) (hmv.block 9 (by omega) (by omega))).trans hm5
      have hws : (wr.setCell ⟨R, 1, none⟩ (.int .i64 ((k : Int) + 1))).heap.size = wr.heap.size := by simp [World.setCell]
      have hrec := field_record (ls[k]'hlt) (wr.setCell ⟨R, 1, none⟩ (.int .i64 ((k : Int) + 1))) ⟨m5, hm6⟩ (by rw [hws]; omega) (Hmem.out _ (List.getElem_mem hlt))
      have hcons : evsN (ls.drop k) k = match lineN (ls[k]'hlt) with
        | .none => evsN (ls.drop (k + 1)) (k + 1)
        | r => (k + 1, r) :: evsN (ls.drop (k + 1)) (k + 1) := by rw [List.drop_eq_getElem_cons hlt, evsN_cons]
      generalize ls[k]'hlt = t at *
      have Hrec := Lib.hid hrec
      have Hcons := Lib.hid hcons
      have Hev := Lib.hid hev
      have Hmv := Lib.hid hmv
      clear hrec hcons hev hmv hm6
      go_wp2_with fail
      refine Hrec.out.mono ?_
      rintro e w5 ⟨hre, hb5⟩
      rw [hws] at hre
      have hmv5 := Hmv.out.trans (MovR.below (R := R) (by rw [hws]; have := (Array.getElem?_eq_some_iff.1 hR1).1; omega) hb5)
      have hlR : R < wr.heap.size := (Array.getElem?_eq_some_iff.1 hR1).1
      have hR5 := (hb5.block R (by rw [hws]; exact hlR)).trans hR2
      have hbr5 := (hmv5.block b (Array.getElem?_eq_some_iff.1 hbr).1 (by omega)).trans hbr
      have hrw5 := (hmv5.block _ (Array.getElem?_eq_some_iff.1 hrw).1 (by omega)).trans hrw
      have hm5b : ∃ m, w5.cell? ⟨9, 0, none⟩ = some (.int .i64 m) := ⟨m5, (World.cell?_of_block (a := ⟨9, 0, none⟩) (hmv5.block 9 (by omega) (by omega))).trans hm5⟩
      have hs5 := hmv5.size
      have hev := Hev.out
      rw [Hcons.out] at hev
      obtain ⟨L, hL⟩ : ∃ L, lineN t = L := ⟨_, rfl⟩
      rw [hL] at hre hev
      have hgo : L ≠ .none → ∀ xs, EvN (evsN ls 0) R i xs wr.heap.size w5 → (i < (evsN ls 0).length) ∧ YieldAt Fence.wide 0 Tryz.prog l xs w5 (fun e W' => (e = .returned (.bool true) ∧ J w4.heap.size (i + 1) W' ∧ KeepE (fun k => k = R) B0 w4.heap.size w5 W') ∨ (e = .returned (.bool false) ∧ Jx i W')) := by
        intro hne xs hx
        have hin : i < (evsN ls 0).length := by
          obtain ⟨l', r', c', o', e', he, _⟩ := hx
          exact (List.getElem?_eq_some_iff.1 he).1
        exact ⟨hin, HY.out _ i xs wr w5 hin (by omega) hsz4 hJ hmv5 hx⟩
      have Hgo := Lib.hid hgo
      clear hgo
      have hJ5 := HJM.out _ _ _ _ hJ hmv5
      clear Hrec Hmv hb5 hR1 hbr hrw hrk hk1 hf1 hm5 hbc hJ
      rcases L with _ | why | ⟨a, b', fs⟩
      · have Hev2 := Lib.hid hev
        have Hre := Lib.hid (show e = _ from hre)
        have he := Hre.out
        subst he
        clear hre hev hR5
        go_wp2_with fail
        go_roundw
        case rel => exact ⟨k + 1, i, by omega, by go_num, hi, Hev2.out, hJ5, by omega, hm5b, hbr5, hrw5⟩
        case measure => simp [RowKit.intOf]; omega
      · have he : e = .returned (.tuple #[.pointer none, .iface 215 (.agg #[.int .i64 why])]) := hre
        subst he
        have hev2 : (evsN ls 0).drop (i + 1) = evsN (ls.drop (k + 1)) (k + 1) := by
          have := congrArg (List.drop 1) hev
          rw [List.drop_drop] at this
          simpa using this
        have hei : (evsN ls 0)[i]? = some (k + 1, .bad why) := by
          have := congrArg (fun l => l[0]?) hev
          simpa using this
        have Hev2 := Lib.hid hev2
        obtain ⟨hin, hy⟩ := Hgo.out (by intro h; cases h) #[.pointer none, .iface 215 (.agg #[.int .i64 why])] ⟨k + 1, .bad why, .string ⟨s.toArray⟩, o1, e1, hei, by rw [hR5]; simp, rfl⟩
        obtain ⟨fn, tmps, assign, body, hy, hR⟩ := hy
        clear hei hev2
        go_upto_region 5 with fail
        refine (wpIn_wide (n := 0)).1 ?_
        gi_wp2_with fail
        refine ⟨rfl, hR.mono ?_⟩
        rintro e W' (⟨rfl, hJ', hk'⟩ | ⟨rfl, hJx'⟩)
        · have hbr6 := hk'.data b _ (by omega) (by omega) hbr5 rfl
          have hrw6 := hk'.data _ _ (by omega) (by omega) hrw5 rfl
          obtain ⟨m6, hm6⟩ := hm5b
          have hm7 : ∃ m, W'.cell? ⟨9, 0, none⟩ = some (.int .i64 m) := ⟨m6, hk'.cell (by omega) (by omega) hm6⟩
          have hs6 := hk'.size
          clear hk' hm6 hbr5 hrw5 hR5 hre hev hR hy Hgo
          gi_wp2
          go_wp2
          go_roundw
          case rel => exact ⟨k + 1, i + 1, by omega, by go_num, by omega, Hev2.out, hJ', by omega, hm7, hbr6, hrw6⟩
          case measure => simp [RowKit.intOf]; omega
        · clear hbr5 hrw5 hR5 hre hev hR hy Hgo
          gi_wp2
          go_wp2
          simp only [Exit.noGoto]
          go_end0
          exact ⟨⟨_, rfl⟩, .inr ⟨_, hin, hJx'⟩⟩
      · obtain ⟨rb, A', n', c', rfl, hrb, hms, hnc, hfr, hrl⟩ := hre
        have hev2 : (evsN ls 0).drop (i + 1) = evsN (ls.drop (k + 1)) (k + 1) := by
          have := congrArg (List.drop 1) hev
          rw [List.drop_drop] at this
          simpa using this
        have hei : (evsN ls 0)[i]? = some (k + 1, .rcd a b' fs) := by
          have := congrArg (fun l => l[0]?) hev
          simpa using this
        have Hev2 := Lib.hid hev2
        obtain ⟨hin, hy⟩ := Hgo.out (by intro h; cases h) #[.pointer (some ⟨rb, 0, none⟩), .nilIface] ⟨k + 1, .rcd a b' fs, .string ⟨s.toArray⟩, o1, e1, hei, by rw [hR5]; simp, rb, A', n', c', rfl, hrb, hms.more (by have := (Array.getElem?_eq_some_iff.1 hrb).1; omega), hnc, hfr, hrl⟩
        obtain ⟨fn, tmps, assign, body, hy, hR⟩ := hy
        clear hei hev2
        go_upto_region 5 with fail
        refine (wpIn_wide (n := 0)).1 ?_
        gi_wp2_with fail
        refine ⟨rfl, hR.mono ?_⟩
        rintro e W' (⟨rfl, hJ', hk'⟩ | ⟨rfl, hJx'⟩)
        · have hbr6 := hk'.data b _ (by omega) (by omega) hbr5 rfl
          have hrw6 := hk'.data _ _ (by omega) (by omega) hrw5 rfl
          obtain ⟨m6, hm6⟩ := hm5b
          have hm7 : ∃ m, W'.cell? ⟨9, 0, none⟩ = some (.int .i64 m) := ⟨m6, hk'.cell (by omega) (by omega) hm6⟩
          have hs6 := hk'.size
          clear hk' hm6 hbr5 hrw5 hR5 hev hR hy Hgo
          gi_wp2
          go_wp2
          go_roundw
          case rel => exact ⟨k + 1, i + 1, by omega, by go_num, by omega, Hev2.out, hJ', by omega, hm7, hbr6, hrw6⟩
          case measure => simp [RowKit.intOf]; omega
        · clear hbr5 hrw5 hR5 hev hR hy Hgo
          gi_wp2
          go_wp2
          simp only [Exit.noGoto]
          go_end0
          exact ⟨⟨_, rfl⟩, .inr ⟨_, hin, hJx'⟩⟩
    · have hkl : k = ls.length := by omega
      have hiN : i = (evsN ls 0).length := by
        have h1 := congrArg List.length hev
        rw [List.drop_eq_nil_of_le (by omega : ls.length ≤ k)] at h1
        simp [evsN] at h1
        omega
      subst hiN
      clear hev hR1 hbr hrw hm5
      go_wp2_with fail
      simp only [Exit.noGoto]
      go_end0
      exact ⟨⟨_, rfl⟩, .inl ⟨_, hJ⟩⟩
end Go.Vir


/- A region that draws its order inside a round: readings, an operation that makes memory, one that appends to it, a tail in one order. No program. -/
namespace Go.Vir
open Go Go.RowKit
section
variable {P : Program} {l n : Nat}
theorem wpIn_append_at {F : Fence} (w : World) {o : Oper} {a : Act} {K : Act → World → Prop} {Q : Exit → Act → World → Prop}
    (s x : Operand) (t : TypeId) (hop : o.op = Op.call { callee := Callee.builtin Builtin.append, args := #[s, x], argTypes := #[t, t] })
    (base : Nat) (e : TypeId) (i : TypeInfo) (z : Value) (size bytes : Nat) (h1 : P.underlying t = some (.slice e)) (h2 : P.info? e = some i) (h3 : i.zero = some z) (h4 : i.size = size) (h5 : i.bytes = bytes) (h6 : z.cells.size = size) (h7 : 0 < size)
    (v : Value) (k : Nat) (xs : List Value) (hs : a.eval s = v) (hown : w.ownsRow base e size v k xs) (ad : Addr) (m c : Nat) (news : List Value) (hx : a.eval x = .slice (some ad) m c) (hn : news.length = m * size)
    (hc : ∀ (j : Nat) (u : Value), news[j]? = some u → w.cell? (ad.add j) = some u) (h1c : ∀ u ∈ news, u.oneCell' = true) (b1 : k + m ≤ maxLen) (b2 : (k + m) * bytes ≤ 140737488355328) (b3 : base ≤ w.heap.size)
    (hK : ∀ v' w', w'.ownsRow base e size v' (k + m) (xs ++ news) → w.grownBy w' v.ownBlock → (v'.ownBlock = v.ownBlock ∨ v'.ownBlock = some w.heap.size) → K (a.put o.dst v') w') :
    o.wpIn F n P a w K Q := by
  obtain ⟨v', w', hrun, r1, r2, _, r3⟩ := run_append_own_at (P := P) w base t o.type e i z size bytes h1 h2 h3 h4 h5 h6 h7 v k xs hown ad m c news hn hc h1c b1 b2 b3
  unfold Oper.wpIn
  refine ⟨?_, ?_⟩
  · simp [Oper.about, hop, resolve, Target.leads, Sem.run_pure]
  · rw [Oper.semAt_plain F _ _ (by rw [hop]; intro c hc'; cases hc')]
    simp [execOp, hop, resolve, invoke, builtin, hs, hx, hrun, Result.andThen]
    exact hK v' w' r1 r2 r3

/-- What is owed ahead of the second operation (a name of its own: so that no simp takes it apart). -/
def Stage (P : Program) (l n : Nat) (S : World → Prop) (oy : Oper) (ol tl : List Oper) (Q : Exit → Act → World → Prop) (a2 : Act) (w2 : World) : Prop :=
  S w2 ∧ Region.wanted oy (yielded ol.toArray a2.tmps) = true ∧ oy.wpIn (Fence.wide.inRound l) n P a2 w2 (fun a3 w3 => S w3 ∧ wpListIn (Fence.wide.inRound l) n P ol.toArray Q tl a3 w3) noWay

/-- The whole: k readings, two operations that make memory, a tail. -/
theorem wpIn_held_tail2 {id : Nat} {Q : Exit → Act → World → Prop} {a : Act} {w : World} {ol : List Oper} {oz oy : Oper} (k : Nat) (S : World → Prop) (hm : P.follows .mixedOrders = true)
    (hd : noDefer ol.toArray = true) (hsel : Region.noSelect ol.toArray = true) (hz : ol[k]? = some oz) (hy : ol[k + 1]? = some oy) (hn : k + 2 < ol.length) (hs : Region.sinkB .any ol.toArray (k + 2) = true) (hc : Region.chainB .any ol.toArray (k + 2) = true)
    (hB : Region.lexHead .any ol.toArray (ol.toArray.size - k) k 0 (Array.replicate ol.toArray.size false) = true) (hS : S w.drew)
    (h : wpTakes P ol.toArray S (fun a' => Region.wanted oz (yielded ol.toArray a'.tmps) = true ∧ oz.wpIn (Fence.wide.inRound l) n P a' w.drew (Stage P l n S oy ol (ol.drop (k + 2)) Q) noWay) (ol.take k) a) :
    (Code.region id ol.toArray true).wpIn (Fence.wide.inRound l) n P Q a w := by
  have hn' : k + 2 < ol.toArray.size := by simpa using hn
  have htl : (ol.take k).length = k := by simp; omega
  have hdl : (ol.drop (k + 2)).length = ol.toArray.size - (k + 2) := by simp
  have inv0 : HeadInv .any ol.toArray (k + 2) (Array.replicate ol.toArray.size false) :=
    ⟨by simp, fun j oj _ hl => (by rw [getD_replicate_false] at hl; cases hl), fun t _ ht => getD_in (by simpa using ht) (getD_replicate_false _ _)⟩
  have H := wpLH_lex (P := P) (md := .any) (S := S) (l := l) (n := n) (k := k) (m := k + 2) (g := ol.toArray.size - k) (f := 2) (w := w.drew)
    (L := fun listed a w => Region.seqB .any ol.toArray (ol.toArray.size - (k + 2)) (k + 2) listed = true ∧ wpListIn (Fence.wide.inRound l) n P ol.toArray Q (ol.drop (k + 2)) a w)
    hd hsel hs hc hn' (Nat.le_add_right k 2) (fun listed a w hL => seqB_ready hL.1) hS (fun listed a hB2 hK => by
      rw [show ol.toArray.size - k = (ol.toArray.size - (k + 2)) + 1 + 1 by omega] at hB2
      simp only [Region.seqB, Bool.and_eq_true, decide_eq_true_eq] at hB2
      refine ⟨fun h0 => (by rw [h0] at hB2; cases hB2.1), fun i hi => ?_⟩
      rw [hB2.1] at hi
      obtain rfl : i = k := by simpa using hi
      refine ⟨by omega, ?_⟩
      have hoz : ol.toArray[i]? = some oz := by simpa using hz
      have hoy : ol.toArray[i + 1]? = some oy := by simpa using hy
      unfold wpOpIn
      simp only [hoz, hK.1, if_true]
      refine Oper.wpIn_mono (fun a2 w2 h2 => ⟨h2.1, fun h0 => (by rw [h0] at hB2; cases hB2.2.1), fun j hj => ?_⟩) hK.2
      rw [hB2.2.1] at hj
      obtain rfl : j = i + 1 := by simpa using hj
      refine ⟨by omega, ?_⟩
      unfold wpOpIn
      simp only [hoy, h2.2.1, if_true]
      exact Oper.wpIn_mono (fun a3 w3 h3 => ⟨h3.1, hB2.2.2, h3.2⟩) h2.2.2) (ol.take k) 0 _ a (fun j hj => by
        have hj' : j < k := by rw [htl] at hj; exact hj
        simp [hj']) (by rw [htl]; omega) inv0 (by rw [htl]; exact hB) h
  refine wpIn_region_any hm ?_
  have := wpAnyIn_of_LH (Q' := Q) (l := l) (n := n) (g := ol.toArray.size - (k + 2)) (fun listed a' w' hL => by
    have := wpAnyIn_of_seq (md := .any) (F := Fence.wide.inRound l) (n := n) (Q' := Q) (ol.drop (k + 2)) (k + 2) listed a' w' (fun j => by simp [List.getElem?_drop]) (by rw [hdl]; exact hL.1) hL.2
    rwa [hdl] at this) _ _ _ _ H
  rw [htl, show k + 2 + (ol.toArray.size - (k + 2)) = ol.toArray.size by omega] at this
  exact this
end
end Go.Vir

