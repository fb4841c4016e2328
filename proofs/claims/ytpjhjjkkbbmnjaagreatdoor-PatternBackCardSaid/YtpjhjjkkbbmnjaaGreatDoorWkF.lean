/- The walks of pattern.Fits, Behind, Ahead. -/
import Derived.Test.YtpjhjjkkbbmnjaaGreatDoorPat
namespace Go.Vir
open Go Go.RowKit Go.Proofs Go.Shelf

def fitsB (xs : List (Int × Int)) (l : List Int) : Bool := patB 32 xs && mtB xs l
def behindB (st : Bool) (xs : List (Int × Int)) (l : List Int) (at_ : Int) : Bool :=
  patB 32 xs && (decide (0 ≤ at_) && (decide (at_ ≤ l.length) && (List.range (if st then 1 else at_.toNat + 1)).any fun i => mtB xs (seg l i at_.toNat)))
def aheadB (st : Bool) (xs : List (Int × Int)) (l : List Int) (at_ : Int) : Bool :=
  patB 32 xs && (decide (0 ≤ at_) && (decide (at_ ≤ l.length) && ((!(st && decide (0 < at_))) && (List.range (l.length + 1)).any fun j => decide (at_.toNat ≤ j) && mtB xs (seg l at_.toNat j))))

theorem patB_items {n : Int} {xs : List (Int × Int)} (h : patB n xs = true) : xs.length ≤ 10 ∧ ∀ x ∈ xs, 0 ≤ x.2 ∧ x.2 ≤ 2 := by
  simp only [patB, Bool.and_eq_true, decide_eq_true_eq, List.all_eq_true] at h
  refine ⟨h.2.2.1, fun x hx => ?_⟩
  have := h.2.2.2 x hx
  simp only [itemB, Bool.and_eq_true, decide_eq_true_eq] at this
  exact ⟨this.1, this.2.1⟩

set_option maxHeartbeats 400000 in
theorem contains_any (A : Option Addr) (n c B : Nat) (zs : List Int) (x : Int) (w : World) (hI : Ints w B A n zs) (hn : n ≤ 10000000) :
    Calls Tryz.prog 68 #[.slice A n c, .int .i64 x] w fun e w' => e = .returned (.bool (zs.contains x)) ∧ w = w' := by
  rcases Nat.eq_zero_or_pos n with h0 | h0
  · subst h0
    obtain rfl : zs = [] := List.eq_nil_of_length_eq_zero hI.len
    exact (Tryz.slices_Contains_int_empty A c x w).mono fun e w' ⟨h1, h2⟩ => ⟨by rw [h1]; simp, h2.symm⟩
  · obtain ⟨b, o, rfl, _, hc⟩ := hI.at_ h0
    refine (Tryz.slices_Contains_int b o n c zs x w (by rw [hI.len]; exact Nat.le_refl _) (by omega) (fun j hj => ?_)).mono fun e w' ⟨h1, h2⟩ => ⟨by rw [h1, List.take_of_length_le (by rw [hI.len]; exact Nat.le_refl _)], h2.symm⟩
    rw [hc j hj]
    simp [List.getD_eq_getElem?_getD, hj]

theorem ends_fits {xs : List (Int × Int)} {l : List Int} {at_ j : Nat} (h : ∀ x ∈ xs, 0 ≤ x.2 ∧ x.2 ≤ 2) (hat : at_ ≤ l.length) (h1 : at_ ≤ j) (hj : j ≤ l.length) :
    (endsL l xs [(at_ : Int)]).contains (j : Int) = mtB xs (seg l at_ j) := by
  rw [Bool.eq_iff_iff, List.contains_iff_mem, mem_endsL l xs _ h (fun y hy => by simp at hy; omega)]
  constructor
  · rintro ⟨i, k, hi, hk, _, _, hm⟩
    simp at hi
    obtain rfl : i = at_ := by omega
    obtain rfl : j = k := by omega
    exact hm
  · exact fun hm => ⟨at_, j, by simp, rfl, h1, hj, hm⟩

theorem ends_some {xs : List (Int × Int)} {l : List Int} {at_ : Nat} (h : ∀ x ∈ xs, 0 ≤ x.2 ∧ x.2 ≤ 2) (hat : at_ ≤ l.length) :
    decide (0 < (endsL l xs [(at_ : Int)]).length) = (List.range (l.length + 1)).any fun j => decide (at_ ≤ j) && mtB xs (seg l at_ j) := by
  rw [Bool.eq_iff_iff, decide_eq_true_eq, List.length_pos_iff_exists_mem, List.any_eq_true]
  constructor
  · rintro ⟨x, hx⟩
    obtain ⟨i, k, hi, rfl, h1, hj, hm⟩ := (mem_endsL l xs _ h (fun y hy => by simp at hy; omega) x).1 hx
    simp at hi
    obtain rfl : i = at_ := by omega
    exact ⟨k, by simp; omega, by simp [h1, hm]⟩
  · rintro ⟨k, hk, hm⟩
    simp only [Bool.and_eq_true, decide_eq_true_eq, List.mem_range] at hm hk
    exact ⟨k, (mem_endsL l xs _ h (fun y hy => by simp at hy; omega) _).2 ⟨at_, k, by simp, rfl, hm.1, by omega, hm.2⟩⟩

theorem outs_endsL {n : Nat} {zs : List Int} (hz : zs.length = n) : ∀ (xs : List (Int × Int)) (out : List Int), (∀ x ∈ xs, 0 ≤ x.2 ∧ x.2 ≤ 2) → Outs n out → Outs n (endsL zs xs out)
  | [], _, _, h => h
  | y :: t, out, hr, hO => by
    refine outs_endsL hz t _ (fun z hz => hr z (List.mem_cons_of_mem _ hz)) (outs_uniq fun v hv => ?_)
    obtain ⟨u, hu, huv⟩ := List.mem_flatMap.1 hv
    have := hO.mem u hu
    have h3 := mem_stepL huv (by omega)
    omega
theorem seg_all_of (l : List Int) : seg l 0 l.length = l := by simp [seg]

set_option maxHeartbeats 400000 in
theorem pattern_Fits (st : Bool) (Ai A : Option Addr) (m ci n c : Nat) (xs : List (Int × Int)) (zs : List Int) (w : World) (hx : Prs w w.heap.size Ai m xs) (hz : Ints w w.heap.size A n zs) (hm : m ≤ 1000) (hn : n ≤ 1000) :
    Calls Tryz.prog 25 #[.agg #[.bool st, .slice Ai m ci], .slice A n c] w fun e w' => e = .returned (.bool (fitsB xs zs)) ∧ Below w.heap.size w w' := by
  have hlen := hz.len
  have hright := fun W (hW : Below w.heap.size w W) => pattern_Right st Ai m ci xs 32 W ((hx.below hW).more hW.size) (by omega)
  have hends := fun W (hW : Below w.heap.size w W) b (hb : b < W.heap.size) (hc : W.cell? ⟨b, 0, none⟩ = some (.slice A n c)) (hp : patB 32 xs = true) =>
    matcher_ends b 0 A n c zs Ai m ci xs 0 W hn hm (Nat.zero_le _) hb hc ((hz.below hW).more hW.size) ((hx.below hW).more hW.size) (patB_items hp).2
  have hel : ∀ (hp : patB 32 xs = true), (endsL zs xs [((0 : Nat) : Int)]).contains (n : Int) = fitsB xs zs := fun hp => by
    rw [← hlen, ends_fits (patB_items hp).2 (Nat.zero_le _) (Nat.zero_le _) (Nat.le_refl _), seg_all_of, fitsB, hp]; rfl
  have Hright := Lib.hid hright; have Hends := Lib.hid hends; have Hel := Lib.hid hel; have Hlen := Lib.hid hlen
  clear hright hends hel hlen
  by_cases hp : patB 32 xs = true
  · go_enter Tryz.func25, Tryz.ntmps25
    go_wp2_with fail
    refine (Hright.out _ (by go_grown)).mono ?_
    rintro e w1 ⟨rfl, hb1⟩
    rw [hp]
    have hb1' : Below w.heap.size w w1 := Below.trans (by go_grown) (hb1.mono (by simp; omega))
    have hs1 : w.heap.size + 2 ≤ w1.heap.size := by have := hb1.size; simp at this; omega
    have k0 : w1.cell? ⟨w.heap.size, 1, none⟩ = some (.slice Ai m ci) := by rw [cellOf hb1 (by simp; omega)]; simp
    have k1 : w1.cell? ⟨w.heap.size + 1, 0, none⟩ = some (.slice A n c) := by rw [cellOf hb1 (by simp)]; simp
    clear hb1
    go_wp2_with fail
    refine (Hends.out w1 hb1' (w.heap.size + 1) (by omega) k1 hp).mono ?_
    rintro e w2 ⟨A2, n2, c2, rfl, hI2, hb2⟩
    have hn2 : n2 ≤ 10000000 := by
      have h1 := hI2.len
      have h2 := (outs_endsL Hlen.out xs [((0 : Nat) : Int)] (patB_items hp).2 ⟨fun x hx => by simp at hx; omega, by simp⟩).len
      omega
    have hcont := contains_any A2 n2 c2 _ _ (n : Int) w2 hI2 hn2
    rw [Hel.out hp] at hcont
    go_wp2_with (go_at_call 68; refine hcont.mono ?_; rintro e w' ⟨rfl, rfl⟩)
    go_ret
    exact ⟨rfl, hb1'.trans (hb2.mono hb1'.size)⟩
  · have hf : fitsB xs zs = false := by simp [fitsB, hp]
    rw [hf]
    have hp' : patB 32 xs = false := by simpa using hp
    go_enter Tryz.func25, Tryz.ntmps25
    go_wp2_with fail
    refine (Hright.out _ (by go_grown)).mono ?_
    rintro e w1 ⟨rfl, hb1⟩
    rw [hp']
    have hb1' : Below w.heap.size w w1 := Below.trans (by go_grown) (hb1.mono (by simp; omega))
    clear hb1
    go_wp2_with fail
    go_ret
    exact ⟨rfl, hb1'⟩

set_option maxHeartbeats 400000 in
theorem pattern_Ahead (st : Bool) (Ai A : Option Addr) (m ci n c : Nat) (xs : List (Int × Int)) (zs : List Int) (a : Int) (w : World) (hx : Prs w w.heap.size Ai m xs) (hz : Ints w w.heap.size A n zs) (hm : m ≤ 1000) (hn : n ≤ 1000) :
    Calls Tryz.prog 29 #[.agg #[.bool st, .slice Ai m ci], .slice A n c, .int .i64 a] w fun e w' => e = .returned (.bool (aheadB st xs zs a)) ∧ Below w.heap.size w w' := by
  have hlen := hz.len
  have hright := fun W (hW : Below w.heap.size w W) => pattern_Right st Ai m ci xs 32 W ((hx.below hW).more hW.size) (by omega)
  have Hright := Lib.hid hright; have Hlen := Lib.hid hlen
  clear hright hlen
  by_cases hp : patB 32 xs = true
  · by_cases hgood : 0 ≤ a ∧ a ≤ n
    · obtain ⟨k, rfl⟩ := Int.eq_ofNat_of_zero_le hgood.1
      have hkn : k ≤ n := by omega
      have hends := fun W (hW : Below w.heap.size w W) b (hb : b < W.heap.size) (hc : W.cell? ⟨b, 0, none⟩ = some (.slice A n c)) =>
        matcher_ends b 0 A n c zs Ai m ci xs k W hn hm hkn hb hc ((hz.below hW).more hW.size) ((hx.below hW).more hW.size) (patB_items hp).2
      have hel : decide (0 < (endsL zs xs [(k : Int)]).length) = (List.range (zs.length + 1)).any fun j => decide (k ≤ j) && mtB xs (seg zs k j) := ends_some (patB_items hp).2 (by rw [Hlen.out]; omega)
      have Hends := Lib.hid hends; have Hel := Lib.hid hel
      clear hends hel hgood
      by_cases hs : st = true ∧ 0 < k
      · obtain ⟨rfl, hk0⟩ := hs
        have hf : aheadB true xs zs k = false := by simp [aheadB, hk0]
        rw [hf]
        go_enter Tryz.func29, Tryz.ntmps29
        go_wp2_with fail
        refine (Hright.out _ (by go_grown)).mono ?_
        rintro e w1 ⟨rfl, hb1⟩
        rw [hp]
        have hb1' : Below w.heap.size w w1 := Below.trans (by go_grown) (hb1.mono (by simp))
        have k0 : w1.cell? ⟨w.heap.size, 0, none⟩ = some (.bool true) := by rw [cellOf hb1 (by simp)]; simp
        clear hb1
        go_wp2_with fail
        go_ret
        exact ⟨rfl, hb1'⟩
      · have hf : aheadB st xs zs k = (List.range (zs.length + 1)).any fun j => decide (k ≤ j) && mtB xs (seg zs k j) := by
          have h1 : (st && decide ((0 : Int) < k)) = false := by
            rcases st with _ | _
            · rfl
            · simp at hs; simp; omega
          simp only [aheadB, hp, h1, Int.toNat_natCast]
          have h2 : (k : Int) ≤ (zs.length : Int) := by rw [Hlen.out]; omega
          simp [h2]
        rw [hf, ← Hel.out]
        clear hf
        have hsk : st = false ∨ st = true ∧ k = 0 := by
          rcases st with _ | _
          · exact .inl rfl
          · simp at hs; exact .inr ⟨rfl, hs⟩
        clear hs
        have hout := outs_endsL Hlen.out xs [(k : Int)] (patB_items hp).2 ⟨fun x hx => by simp at hx; omega, by simp⟩
        rcases hsk with rfl | ⟨rfl, rfl⟩
        · go_enter Tryz.func29, Tryz.ntmps29
          go_wp2_with fail
          refine (Hright.out _ (by go_grown)).mono ?_
          rintro e w1 ⟨rfl, hb1⟩
          rw [hp]
          have hb1' : Below w.heap.size w w1 := Below.trans (by go_grown) (hb1.mono (by simp))
          have hs1 : w.heap.size < w1.heap.size := by have := hb1.size; simp at this; omega
          have k0 : w1.cell? ⟨w.heap.size, 0, none⟩ = some (.bool false) := by rw [cellOf hb1 (by simp)]; simp
          have k1 : w1.cell? ⟨w.heap.size, 1, none⟩ = some (.slice Ai m ci) := by rw [cellOf hb1 (by simp)]; simp
          clear hb1
          go_wp2_with fail
          refine (Hends.out (w1.alloc (.cells #[.slice A n c] 89)) (hb1'.alloc hb1'.size _) w1.heap.size (by simp) (by simp)).mono ?_
          rintro e w2 ⟨A2, n2, c2, rfl, hI2, hb2⟩
          have Hil := Lib.hid hI2.len
          have hn2 : n2 ≤ 1001 := by have := hout.len; have := hI2.len; omega
          have hb3 : Below w.heap.size w w2 := (hb1'.alloc hb1'.size _).trans (Below.mono hb2 (Nat.le_trans hb1'.size (by simp)))
          clear hb2 hI2
          go_wp2
          go_ret
          refine ⟨ret_bool ?_, hb3⟩
          rw [Hil.out]
        · go_enter Tryz.func29, Tryz.ntmps29
          go_wp2_with fail
          refine (Hright.out _ (by go_grown)).mono ?_
          rintro e w1 ⟨rfl, hb1⟩
          rw [hp]
          have hb1' : Below w.heap.size w w1 := Below.trans (by go_grown) (hb1.mono (by simp))
          have hs1 : w.heap.size < w1.heap.size := by have := hb1.size; simp at this; omega
          have k0 : w1.cell? ⟨w.heap.size, 0, none⟩ = some (.bool true) := by rw [cellOf hb1 (by simp)]; simp
          have k1 : w1.cell? ⟨w.heap.size, 1, none⟩ = some (.slice Ai m ci) := by rw [cellOf hb1 (by simp)]; simp
          clear hb1
          go_wp2_with fail
          refine (Hends.out (w1.alloc (.cells #[.slice A n c] 89)) (hb1'.alloc hb1'.size _) w1.heap.size (by simp) (by simp)).mono ?_
          rintro e w2 ⟨A2, n2, c2, rfl, hI2, hb2⟩
          have Hil := Lib.hid hI2.len
          have hn2 : n2 ≤ 1001 := by have := hout.len; have := hI2.len; omega
          have hb3 : Below w.heap.size w w2 := (hb1'.alloc hb1'.size _).trans (Below.mono hb2 (Nat.le_trans hb1'.size (by simp)))
          clear hb2 hI2
          go_wp2
          go_ret
          refine ⟨ret_bool ?_, hb3⟩
          rw [Hil.out]
    · have hf : aheadB st xs zs a = false := by
        have h1 : (decide (0 ≤ a) && decide (a ≤ zs.length)) = false := by
          rw [Hlen.out]
          rw [← Bool.not_eq_true, Bool.and_eq_true, decide_eq_true_eq, decide_eq_true_eq]; exact hgood
        rw [aheadB, ← Bool.and_assoc (decide (0 ≤ a)), h1]; simp
      rw [hf]
      clear hf
      have hg : a < 0 ∨ 0 ≤ a ∧ (n : Int) < a := by omega
      clear hgood
      rcases hg with hg | ⟨hg0, hg⟩
      · go_enter Tryz.func29, Tryz.ntmps29
        go_wp2_with fail
        refine (Hright.out _ (by go_grown)).mono ?_
        rintro e w1 ⟨rfl, hb1⟩
        rw [hp]
        have hb1' : Below w.heap.size w w1 := Below.trans (by go_grown) (hb1.mono (by simp))
        clear hb1
        go_wp2
        go_ret
        exact ⟨rfl, hb1'⟩
      · go_enter Tryz.func29, Tryz.ntmps29
        go_wp2_with fail
        refine (Hright.out _ (by go_grown)).mono ?_
        rintro e w1 ⟨rfl, hb1⟩
        rw [hp]
        have hb1' : Below w.heap.size w w1 := Below.trans (by go_grown) (hb1.mono (by simp))
        clear hb1
        go_wp2
        go_ret
        exact ⟨rfl, hb1'⟩
  · have hf : aheadB st xs zs a = false := by simp [aheadB, hp]
    rw [hf]
    have hp' : patB 32 xs = false := by simpa using hp
    clear hf hp
    go_enter Tryz.func29, Tryz.ntmps29
    go_wp2_with fail
    refine (Hright.out _ (by go_grown)).mono ?_
    rintro e w1 ⟨rfl, hb1⟩
    rw [hp']
    have hb1' : Below w.heap.size w w1 := Below.trans (by go_grown) (hb1.mono (by simp))
    clear hb1
    go_wp2
    go_ret
    exact ⟨rfl, hb1'⟩

theorem seg_of_take (zs : List Int) (i a : Nat) : seg (zs.take a) i a = seg zs i a := by
  unfold seg
  rw [List.drop_take, List.take_take]
  simp

theorem Ints.take {w : World} {B n : Nat} {A : Option Addr} {zs : List Int} (h : Ints w B A n zs) (k : Nat) (hk : k ≤ n) : Ints w B A k (zs.take k) :=
  ⟨by rw [List.length_take, h.len]; omega, fun h0 => by
    obtain ⟨b, o, e, hb, hc⟩ := h.at_ (by omega)
    refine ⟨b, o, e, hb, fun j hj => ?_⟩
    rw [List.length_take] at hj
    rw [hc j (by omega)]
    simp⟩
theorem behindB_good {st : Bool} {xs : List (Int × Int)} {zs : List Int} {k : Nat} (hp : patB 32 xs = true) (hk : k ≤ zs.length) :
    behindB st xs zs (k : Int) = (List.range (if st then 1 else k + 1)).any fun i => mtB xs (seg zs i k) := by
  have h2 : (k : Int) ≤ (zs.length : Int) := by omega
  simp [behindB, hp, h2]

set_option maxHeartbeats 400000 in
theorem pattern_Behind (st : Bool) (Ai A : Option Addr) (m ci n c : Nat) (xs : List (Int × Int)) (zs : List Int) (a : Int) (w : World) (hx : Prs w w.heap.size Ai m xs) (hz : Ints w w.heap.size A n zs) (hm : m ≤ 1000) (hn : n ≤ 1000) (hc : n ≤ c) :
    Calls Tryz.prog 27 #[.agg #[.bool st, .slice Ai m ci], .slice A n c, .int .i64 a] w fun e w' => e = .returned (.bool (behindB st xs zs a)) ∧ Below w.heap.size w w' := by
  have hlen := hz.len
  have hright := fun W (hW : Below w.heap.size w W) => pattern_Right st Ai m ci xs 32 W ((hx.below hW).more hW.size) (by omega)
  have Hright := Lib.hid hright; have Hlen := Lib.hid hlen
  clear hright hlen
  by_cases hp : patB 32 xs = true
  · by_cases hgood : 0 ≤ a ∧ a ≤ n
    · obtain ⟨k, rfl⟩ := Int.eq_ofNat_of_zero_le hgood.1
      have hkn : k ≤ n := by omega
      clear hgood
      have hd1 : decide ((k : Int) < 0) = false := by simp
      have hd2 : decide (n < k) = false := by simp; omega
      go_enter Tryz.func27, Tryz.ntmps27
      go_wp2_with fail
      refine (Hright.out _ (by go_grown)).mono ?_
      rintro e w1 ⟨rfl, hb1⟩
      rw [hp]
      have hb1' : Below w.heap.size w w1 := Below.trans (by go_grown) (hb1.mono (by simp))
      have hs1 : w.heap.size < w1.heap.size := by have := hb1.size; simp at this; omega
      have k0 : w1.cell? ⟨w.heap.size, 0, none⟩ = some (.bool st) := by rw [cellOf hb1 (by simp)]; simp
      have k1 : w1.cell? ⟨w.heap.size, 1, none⟩ = some (.slice Ai m ci) := by rw [cellOf hb1 (by simp)]; simp
      clear hb1
      go_wp2_with fail
      refine wp_gen ?_
      intro W1 hW1
      have hb2 : Below w.heap.size w W1 := by rw [hW1]; exact hb1'.alloc hb1'.size _
      have hs2 : W1.heap.size = w1.heap.size + 1 := by simp [hW1]
      have e0 : W1.cell? ⟨w.heap.size, 0, none⟩ = some (.bool st) := (cellOf (by rw [hW1]; go_grown : Below w1.heap.size w1 W1) hs1).trans k0
      have e1 : W1.cell? ⟨w.heap.size, 1, none⟩ = some (.slice Ai m ci) := (cellOf (by rw [hW1]; go_grown : Below w1.heap.size w1 W1) hs1).trans k1
      have e2 : W1.cell? ⟨w1.heap.size, 0, none⟩ = some (.slice A k k) := by rw [hW1]; simp
      clear hW1 k0 k1
      have hzk := hz.take k hkn
      have hends := fun i (hi : i ≤ k) W (hW : Below w.heap.size w W) b (hb : b < W.heap.size) (hc : W.cell? ⟨b, 0, none⟩ = some (.slice A k k)) =>
        matcher_ends b 0 A k k (zs.take k) Ai m ci xs i W (by omega) hm hi hb hc ((hzk.below hW).more hW.size) ((hx.below hW).more hW.size) (patB_items hp).2
      have hel := fun i (hi : i ≤ k) => (ends_fits (xs := xs) (l := zs.take k) (at_ := i) (j := k) (patB_items hp).2 (by rw [hzk.len]; exact hi) hi (by rw [hzk.len]; exact Nat.le_refl _)).trans (by rw [seg_of_take])
      have hout := fun i (hi : i ≤ k) => (outs_endsL (n := k) hzk.len xs [(i : Int)] (patB_items hp).2 ⟨fun x hx => by simp at hx; omega, by simp⟩).len
      have hgood := behindB_good (st := st) hp (by rw [Hlen.out]; exact hkn : k ≤ zs.length)
      have Hends := Lib.hid hends; have Hel := Lib.hid hel; have Hout := Lib.hid hout; have Hgood := Lib.hid hgood; have Hs2 := Lib.hid hs2
      have hlt2 : w1.heap.size < W1.heap.size := by omega
      clear hends hel hout hgood hs2
      go_loopw [31] (fun v wr => ∃ i : Nat, i ≤ k + 1 ∧ v = .int .i64 i ∧ (∀ j, j < i → mtB xs (seg zs j k) = false) ∧ (st = true → i = 0) ∧ Below w.heap.size w wr ∧ Below W1.heap.size W1 wr) (fun v _ => k + 1 - (RowKit.intOf v).toNat)
      case atStart => exact ⟨0, by omega, rfl, fun j h => absurd h (by omega), fun _ => rfl, hb2, Below.refl _ _⟩
      case round =>
        obtain ⟨i, hi, rfl, hno, hst, hbr, hbr2⟩ := hrel
        have Hst := Lib.hid hst
        have Hno := Lib.hid hno
        clear hst hno
        have q0 := (cellOf hbr2 (by omega)).trans e0
        have q1 := (cellOf hbr2 (by omega)).trans e1
        have q2 := (cellOf hbr2 hlt2).trans e2
        have hsr := hbr2.size
        rcases Nat.lt_or_ge i (k + 1) with hlt | hge
        · go_wp2_with fail
          refine (Hends.out i (by omega) wr hbr w1.heap.size (by omega) q2).mono ?_
          rintro e w2 ⟨A2, n2, c2, rfl, hI2, hb3⟩
          have hcont := contains_any A2 n2 c2 _ _ (k : Int) w2 hI2 (by have := Hout.out i (by omega); have := hI2.len; omega)
          rw [Hel.out i (by omega)] at hcont
          have hb4 : Below W1.heap.size W1 w2 := hbr2.trans (hb3.mono hsr)
          have hb5 : Below w.heap.size w w2 := hbr.trans (hb3.mono hbr.size)
          have q0' := (cellOf hb4 (by omega)).trans e0
          clear hb3 q0 q1 q2 hI2
          rcases hm2 : mtB xs (seg zs i k) with _ | _
          · rw [hm2] at hcont
            rcases hst2 : st with _ | _
            · subst hst2
              have hno2 : ∀ j, j < i + 1 → mtB xs (seg zs j k) = false := fun j hj => by
                rcases Nat.lt_or_ge j i with h | h
                · exact Hno.out j h
                · obtain rfl : j = i := by omega
                  exact hm2
              have Hno2 := Lib.hid hno2
              clear hm2 hno2
              go_wp2_with (go_at_call 68; refine hcont.mono ?_; rintro e w' ⟨rfl, rfl⟩)
              go_roundw
              case rel => first | exact ⟨i + 1, by omega, by go_num, Hno2.out, (fun h => by cases h), hb5, hb4⟩ | ((repeat apply Exists.intro); exact ⟨⟨i + 1, by omega, by go_num, Hno2.out, (fun h => by cases h), hb5, hb4⟩, rfl⟩)
              case measure => simp [RowKit.intOf]; omega
            · subst hst2
              have hi0 := Hst.out rfl
              subst hi0
              have hf : behindB true xs zs (k : Int) = false := by rw [Hgood.out]; simp [hm2]
              have Hf := Lib.hid hf
              clear hm2 hf
              go_wp2_with (go_at_call 68; refine hcont.mono ?_; rintro e w' ⟨rfl, rfl⟩)
              go_ret
              exact ⟨ret_bool Hf.out.symm, hb5⟩
          · rw [hm2] at hcont
            have hf : behindB st xs zs (k : Int) = true := by
              rw [Hgood.out, List.any_eq_true]
              refine ⟨i, ?_, hm2⟩
              rw [List.mem_range]
              split
              · rename_i h; have := Hst.out h; omega
              · omega
            have Hf := Lib.hid hf
            clear hm2 hf
            go_wp2_with (go_at_call 68; refine hcont.mono ?_; rintro e w' ⟨rfl, rfl⟩)
            go_ret
            exact ⟨ret_bool Hf.out.symm, hb5⟩
        · have hf : behindB st xs zs (k : Int) = false := by
            rw [Hgood.out, ← Bool.not_eq_true, List.any_eq_true]
            rintro ⟨j, hj, hm2⟩
            rw [List.mem_range] at hj
            rw [Hno.out j (by split at hj <;> omega)] at hm2
            cases hm2
          have Hf := Lib.hid hf
          clear hf
          go_wp2
          go_ret
          exact ⟨ret_bool Hf.out.symm, hbr⟩
    · have hf : behindB st xs zs a = false := by
        have h1 : (decide (0 ≤ a) && decide (a ≤ zs.length)) = false := by
          rw [Hlen.out]
          rw [← Bool.not_eq_true, Bool.and_eq_true, decide_eq_true_eq, decide_eq_true_eq]; exact hgood
        rw [behindB, ← Bool.and_assoc (decide (0 ≤ a)), h1]; simp
      rw [hf]
      clear hf
      have hg : a < 0 ∨ 0 ≤ a ∧ (n : Int) < a := by omega
      clear hgood
      rcases hg with hg | ⟨hg0, hg⟩
      · go_enter Tryz.func27, Tryz.ntmps27
        go_wp2_with fail
        refine (Hright.out _ (by go_grown)).mono ?_
        rintro e w1 ⟨rfl, hb1⟩
        rw [hp]
        have hb1' : Below w.heap.size w w1 := Below.trans (by go_grown) (hb1.mono (by simp))
        clear hb1
        go_wp2
        go_ret
        exact ⟨rfl, hb1'⟩
      · go_enter Tryz.func27, Tryz.ntmps27
        go_wp2_with fail
        refine (Hright.out _ (by go_grown)).mono ?_
        rintro e w1 ⟨rfl, hb1⟩
        rw [hp]
        have hb1' : Below w.heap.size w w1 := Below.trans (by go_grown) (hb1.mono (by simp))
        clear hb1
        go_wp2
        go_ret
        exact ⟨rfl, hb1'⟩
  · have hf : behindB st xs zs a = false := by simp [behindB, hp]
    rw [hf]
    have hp' : patB 32 xs = false := by simpa using hp
    clear hf hp
    go_enter Tryz.func27, Tryz.ntmps27
    go_wp2_with fail
    refine (Hright.out _ (by go_grown)).mono ?_
    rintro e w1 ⟨rfl, hb1⟩
    rw [hp']
    have hb1' : Below w.heap.size w w1 := Below.trans (by go_grown) (hb1.mono (by simp))
    clear hb1
    go_wp2
    go_ret
    exact ⟨rfl, hb1'⟩
end Go.Vir
