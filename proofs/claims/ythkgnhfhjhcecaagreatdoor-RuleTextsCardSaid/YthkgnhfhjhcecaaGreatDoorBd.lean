/- Joined texts: WkF, WkR, TxA, Rum, RlA, RngB, RlB. -/
import Derived.Test.YthkgnhfhjhcecaaGreatDoorBc
import Derived.Test.YthkgnhfhjhcecaaGreatDoorBa
import Derived.RangeFuncBox
import Derived.Deep.RegionHeld3
/- The walks of pattern.Fits, Behind, Ahead. -/
namespace Go.Vir
open Go Go.RowKit Go.Proofs Go.Shelf

def fitsB (xs : List (Int × Int)) (l : List Int) : Bool := patB 32 xs && mtB xs l
def behindB (st : Bool) (xs : List (Int × Int)) (l : List Int) (at_ : Int) : Bool :=
  patB 32 xs && (decide (0 ≤ at_) && (decide (at_ ≤ l.length) && (List.range (if st then 1 else at_.toNat + 1)).any fun i => mtB xs (seg l i at_.toNat)))
def aheadB (st : Bool) (xs : List (Int × Int)) (l : List Int) (at_ : Int) : Bool :=
  patB 32 xs && (decide (0 ≤ at_) && (decide (at_ ≤ l.length) && ((!(st && decide (0 < at_))) && (List.range (l.length + 1)).any fun j => decide (at_.toNat ≤ j) && mtB xs (seg l at_.toNat j))))

theorem patB_items {n : Int} {xs : List (Int × Int)} (h : patB n xs = true) : xs.length ≤ 10 ∧ ∀ x ∈ xs, 0 ≤ x.2 ∧ x.2 ≤ 2 := by
  simp only [patB, Bool.and_eq_true, decide_eq_true_eq, List.all_eq_true] at h
  refine ⟨h.2.2.1, fun x hx => ?_⟩
  have := h.2.2.2 x hx
  simp only [itemB, Bool.and_eq_true, decide_eq_true_eq] at this
  exact ⟨this.1, this.2.1⟩

set_option maxHeartbeats 400000 in
theorem contains_any (A : Option Addr) (n c B : Nat) (zs : List Int) (x : Int) (w : World) (hI : Ints w B A n zs) (hn : n ≤ 10000000) :
    Calls Tryz.prog 261 #[.slice A n c, .int .i64 x] w fun e w' => e = .returned (.bool (zs.contains x)) ∧ w = w' := by
  rcases Nat.eq_zero_or_pos n with h0 | h0
  · subst h0
    obtain rfl : zs = [] := List.eq_nil_of_length_eq_zero hI.len
    exact (Tryz.slices_Contains_int_empty A c x w).mono fun e w' ⟨h1, h2⟩ => ⟨by rw [h1]; simp, h2.symm⟩
  · obtain ⟨b, o, rfl, _, hc⟩ := hI.at_ h0
    refine (Tryz.slices_Contains_int b o n c zs x w (by rw [hI.len]; exact Nat.le_refl _) (by omega) (fun j hj => ?_)).mono fun e w' ⟨h1, h2⟩ => ⟨by rw [h1, List.take_of_length_le (by rw [hI.len]; exact Nat.le_refl _)], h2.symm⟩
    rw [hc j hj]
    simp [List.getD_eq_getElem?_getD, hj]

theorem ends_fits {xs : List (Int × Int)} {l : List Int} {at_ j : Nat} (h : ∀ x ∈ xs, 0 ≤ x.2 ∧ x.2 ≤ 2) (hat : at_ ≤ l.length) (h1 : at_ ≤ j) (hj : j ≤ l.length) :
    (endsL l xs [(at_ : Int)]).contains (j : Int) = mtB xs (seg l at_ j) := by
  rw [Bool.eq_iff_iff, List.contains_iff_mem, mem_endsL l xs _ h (fun y hy => by simp at hy; omega)]
  constructor
  · rintro ⟨i, k, hi, hk, _, _, hm⟩
    simp at hi
    obtain rfl : i = at_ := by omega
    obtain rfl : j = k := by omega
    exact hm
  · exact fun hm => ⟨at_, j, by simp, rfl, h1, hj, hm⟩

theorem ends_some {xs : List (Int × Int)} {l : List Int} {at_ : Nat} (h : ∀ x ∈ xs, 0 ≤ x.2 ∧ x.2 ≤ 2) (hat : at_ ≤ l.length) :
    decide (0 < (endsL l xs [(at_ : Int)]).length) = (List.range (l.length + 1)).any fun j => decide (at_ ≤ j) && mtB xs (seg l at_ j) := by
  rw [Bool.eq_iff_iff, decide_eq_true_eq, List.length_pos_iff_exists_mem, List.any_eq_true]
  constructor
  · rintro ⟨x, hx⟩
    obtain ⟨i, k, hi, rfl, h1, hj, hm⟩ := (mem_endsL l xs _ h (fun y hy => by simp at hy; omega) x).1 hx
    simp at hi
    obtain rfl : i = at_ := by omega
    exact ⟨k, by simp; omega, by simp [h1, hm]⟩
  · rintro ⟨k, hk, hm⟩
    simp only [Bool.and_eq_true, decide_eq_true_eq, List.mem_range] at hm hk
    exact ⟨k, (mem_endsL l xs _ h (fun y hy => by simp at hy; omega) _).2 ⟨at_, k, by simp, rfl, hm.1, by omega, hm.2⟩⟩

theorem outs_endsL {n : Nat} {zs : List Int} (hz : zs.length = n) : ∀ (xs : List (Int × Int)) (out : List Int), (∀ x ∈ xs, 0 ≤ x.2 ∧ x.2 ≤ 2) → Outs n out → Outs n (endsL zs xs out)
  | [], _, _, h => h
  | y :: t, out, hr, hO => by
    refine outs_endsL hz t _ (fun z hz => hr z (List.mem_cons_of_mem _ hz)) (outs_uniq fun v hv => ?_)
    obtain ⟨u, hu, huv⟩ := List.mem_flatMap.1 hv
    have := hO.mem u hu
    have h3 := mem_stepL huv (by omega)
    omega
theorem seg_all_of (l : List Int) : seg l 0 l.length = l := by simp [seg]

set_option maxHeartbeats 400000 in
theorem pattern_Ahead (st : Bool) (Ai A : Option Addr) (m ci n c : Nat) (xs : List (Int × Int)) (zs : List Int) (a : Int) (w : World) (hx : Prs w w.heap.size Ai m xs) (hz : Ints w w.heap.size A n zs) (hm : m ≤ 1000) (hn : n ≤ 1000) :
    Calls Tryz.prog 225 #[.agg #[.bool st, .slice Ai m ci], .slice A n c, .int .i64 a] w fun e w' => e = .returned (.bool (aheadB st xs zs a)) ∧ Below w.heap.size w w' := by
  have hlen := hz.len
  have hright := fun W (hW : Below w.heap.size w W) => pattern_Right st Ai m ci xs 32 W ((hx.below hW).more hW.size) (by omega)
  have Hright := Lib.hid hright; have Hlen := Lib.hid hlen
  clear hright hlen
  by_cases hp : patB 32 xs = true
  · by_cases hgood : 0 ≤ a ∧ a ≤ n
    · obtain ⟨k, rfl⟩ := Int.eq_ofNat_of_zero_le hgood.1
      have hkn : k ≤ n := by omega
      have hends := fun W (hW : Below w.heap.size w W) b (hb : b < W.heap.size) (hc : W.cell? ⟨b, 0, none⟩ = some (.slice A n c)) =>
        matcher_ends b 0 A n c zs Ai m ci xs k W hn hm hkn hb hc ((hz.below hW).more hW.size) ((hx.below hW).more hW.size) (patB_items hp).2
      have hel : decide (0 < (endsL zs xs [(k : Int)]).length) = (List.range (zs.length + 1)).any fun j => decide (k ≤ j) && mtB xs (seg zs k j) := ends_some (patB_items hp).2 (by rw [Hlen.out]; omega)
      have Hends := Lib.hid hends; have Hel := Lib.hid hel
      clear hends hel hgood
      by_cases hs : st = true ∧ 0 < k
      · obtain ⟨rfl, hk0⟩ := hs
        have hf : aheadB true xs zs k = false := by simp [aheadB, hk0]
        rw [hf]
        go_enter Tryz.func225, Tryz.ntmps225
        go_wp2_with fail
        refine (Hright.out _ (by go_grown)).mono ?_
        rintro e w1 ⟨rfl, hb1⟩
        rw [hp]
        have hb1' : Below w.heap.size w w1 := Below.trans (by go_grown) (hb1.mono (by simp))
        have k0 : w1.cell? ⟨w.heap.size, 0, none⟩ = some (.bool true) := by rw [cellOf hb1 (by simp)]; simp
        clear hb1
        go_wp2_with fail
        go_ret
        exact ⟨rfl, hb1'⟩
      · have hf : aheadB st xs zs k = (List.range (zs.length + 1)).any fun j => decide (k ≤ j) && mtB xs (seg zs k j) := by
          have h1 : (st && decide ((0 : Int) < k)) = false := by
            rcases st with _ | _
            · rfl
            · simp at hs; simp; omega
          simp only [aheadB, hp, h1, Int.toNat_natCast]
          have h2 : (k : Int) ≤ (zs.length : Int) := by rw [Hlen.out]; omega
          simp [h2]
        rw [hf, ← Hel.out]
        clear hf
        have hsk : st = false ∨ st = true ∧ k = 0 := by
          rcases st with _ | _
          · exact .inl rfl
          · simp at hs; exact .inr ⟨rfl, hs⟩
        clear hs
        have hout := outs_endsL Hlen.out xs [(k : Int)] (patB_items hp).2 ⟨fun x hx => by simp at hx; omega, by simp⟩
        rcases hsk with rfl | ⟨rfl, rfl⟩
        · go_enter Tryz.func225, Tryz.ntmps225
          go_wp2_with fail
          refine (Hright.out _ (by go_grown)).mono ?_
          rintro e w1 ⟨rfl, hb1⟩
          rw [hp]
          have hb1' : Below w.heap.size w w1 := Below.trans (by go_grown) (hb1.mono (by simp))
          have hs1 : w.heap.size < w1.heap.size := by have := hb1.size; simp at this; omega
          have k0 : w1.cell? ⟨w.heap.size, 0, none⟩ = some (.bool false) := by rw [cellOf hb1 (by simp)]; simp
          have k1 : w1.cell? ⟨w.heap.size, 1, none⟩ = some (.slice Ai m ci) := by rw [cellOf hb1 (by simp)]; simp
          clear hb1
          go_wp2_with fail
          refine (Hends.out (w1.alloc (.cells #[.slice A n c] 352)) (hb1'.alloc hb1'.size _) w1.heap.size (by simp) (by simp)).mono ?_
          rintro e w2 ⟨A2, n2, c2, rfl, hI2, hb2⟩
          have Hil := Lib.hid hI2.len
          have hn2 : n2 ≤ 1001 := by have := hout.len; have := hI2.len; omega
          have hb3 : Below w.heap.size w w2 := (hb1'.alloc hb1'.size _).trans (Below.mono hb2 (Nat.le_trans hb1'.size (by simp)))
          clear hb2 hI2
          go_wp2
          go_ret
          refine ⟨ret_bool ?_, hb3⟩
          rw [Hil.out]
        · go_enter Tryz.func225, Tryz.ntmps225
          go_wp2_with fail
          refine (Hright.out _ (by go_grown)).mono ?_
          rintro e w1 ⟨rfl, hb1⟩
          rw [hp]
          have hb1' : Below w.heap.size w w1 := Below.trans (by go_grown) (hb1.mono (by simp))
          have hs1 : w.heap.size < w1.heap.size := by have := hb1.size; simp at this; omega
          have k0 : w1.cell? ⟨w.heap.size, 0, none⟩ = some (.bool true) := by rw [cellOf hb1 (by simp)]; simp
          have k1 : w1.cell? ⟨w.heap.size, 1, none⟩ = some (.slice Ai m ci) := by rw [cellOf hb1 (by simp)]; simp
          clear hb1
          go_wp2_with fail
          refine (Hends.out (w1.alloc (.cells #[.slice A n c] 352)) (hb1'.alloc hb1'.size _) w1.heap.size (by simp) (by simp)).mono ?_
          rintro e w2 ⟨A2, n2, c2, rfl, hI2, hb2⟩
          have Hil := Lib.hid hI2.len
          have hn2 : n2 ≤ 1001 := by have := hout.len; have := hI2.len; omega
          have hb3 : Below w.heap.size w w2 := (hb1'.alloc hb1'.size _).trans (Below.mono hb2 (Nat.le_trans hb1'.size (by simp)))
          clear hb2 hI2
          go_wp2
          go_ret
          refine ⟨ret_bool ?_, hb3⟩
          rw [Hil.out]
    · have hf : aheadB st xs zs a = false := by
        have h1 : (decide (0 ≤ a) && decide (a ≤ zs.length)) = false := by
          rw [Hlen.out]
          rw [← Bool.not_eq_true, Bool.and_eq_true, decide_eq_true_eq, decide_eq_true_eq]; exact hgood
        rw [aheadB, ← Bool.and_assoc (decide (0 ≤ a)), h1]; simp
      rw [hf]
      clear hf
      have hg : a < 0 ∨ 0 ≤ a ∧ (n : Int) < a := by omega
      clear hgood
      rcases hg with hg | ⟨hg0, hg⟩
      · go_enter Tryz.func225, Tryz.ntmps225
        go_wp2_with fail
        refine (Hright.out _ (by go_grown)).mono ?_
        rintro e w1 ⟨rfl, hb1⟩
        rw [hp]
        have hb1' : Below w.heap.size w w1 := Below.trans (by go_grown) (hb1.mono (by simp))
        clear hb1
        go_wp2
        go_ret
        exact ⟨rfl, hb1'⟩
      · go_enter Tryz.func225, Tryz.ntmps225
        go_wp2_with fail
        refine (Hright.out _ (by go_grown)).mono ?_
        rintro e w1 ⟨rfl, hb1⟩
        rw [hp]
        have hb1' : Below w.heap.size w w1 := Below.trans (by go_grown) (hb1.mono (by simp))
        clear hb1
        go_wp2
        go_ret
        exact ⟨rfl, hb1'⟩
  · have hf : aheadB st xs zs a = false := by simp [aheadB, hp]
    rw [hf]
    have hp' : patB 32 xs = false := by simpa using hp
    clear hf hp
    go_enter Tryz.func225, Tryz.ntmps225
    go_wp2_with fail
    refine (Hright.out _ (by go_grown)).mono ?_
    rintro e w1 ⟨rfl, hb1⟩
    rw [hp']
    have hb1' : Below w.heap.size w w1 := Below.trans (by go_grown) (hb1.mono (by simp))
    clear hb1
    go_wp2
    go_ret
    exact ⟨rfl, hb1'⟩

theorem seg_of_take (zs : List Int) (i a : Nat) : seg (zs.take a) i a = seg zs i a := by
  unfold seg
  rw [List.drop_take, List.take_take]
  simp

theorem Ints.take {w : World} {B n : Nat} {A : Option Addr} {zs : List Int} (h : Ints w B A n zs) (k : Nat) (hk : k ≤ n) : Ints w B A k (zs.take k) :=
  ⟨by rw [List.length_take, h.len]; omega, fun h0 => by
    obtain ⟨b, o, e, hb, hc⟩ := h.at_ (by omega)
    refine ⟨b, o, e, hb, fun j hj => ?_⟩
    rw [List.length_take] at hj
    rw [hc j (by omega)]
    simp⟩
theorem behindB_good {st : Bool} {xs : List (Int × Int)} {zs : List Int} {k : Nat} (hp : patB 32 xs = true) (hk : k ≤ zs.length) :
    behindB st xs zs (k : Int) = (List.range (if st then 1 else k + 1)).any fun i => mtB xs (seg zs i k) := by
  have h2 : (k : Int) ≤ (zs.length : Int) := by omega
  simp [behindB, hp, h2]

set_option maxHeartbeats 400000 in
theorem pattern_Behind (st : Bool) (Ai A : Option Addr) (m ci n c : Nat) (xs : List (Int × Int)) (zs : List Int) (a : Int) (w : World) (hx : Prs w w.heap.size Ai m xs) (hz : Ints w w.heap.size A n zs) (hm : m ≤ 1000) (hn : n ≤ 1000) (hc : n ≤ c) :
    Calls Tryz.prog 224 #[.agg #[.bool st, .slice Ai m ci], .slice A n c, .int .i64 a] w fun e w' => e = .returned (.bool (behindB st xs zs a)) ∧ Below w.heap.size w w' := by
  have hlen := hz.len
  have hright := fun W (hW : Below w.heap.size w W) => pattern_Right st Ai m ci xs 32 W ((hx.below hW).more hW.size) (by omega)
  have Hright := Lib.hid hright; have Hlen := Lib.hid hlen
  clear hright hlen
  by_cases hp : patB 32 xs = true
  · by_cases hgood : 0 ≤ a ∧ a ≤ n
    · obtain ⟨k, rfl⟩ := Int.eq_ofNat_of_zero_le hgood.1
      have hkn : k ≤ n := by omega
      clear hgood
      have hd1 : decide ((k : Int) < 0) = false := by simp
      have hd2 : decide (n < k) = false := by simp; omega
      go_enter Tryz.func224, Tryz.ntmps224
      go_wp2_with fail
      refine (Hright.out _ (by go_grown)).mono ?_
      rintro e w1 ⟨rfl, hb1⟩
      rw [hp]
      have hb1' : Below w.heap.size w w1 := Below.trans (by go_grown) (hb1.mono (by simp))
      have hs1 : w.heap.size < w1.heap.size := by have := hb1.size; simp at this; omega
      have k0 : w1.cell? ⟨w.heap.size, 0, none⟩ = some (.bool st) := by rw [cellOf hb1 (by simp)]; simp
      have k1 : w1.cell? ⟨w.heap.size, 1, none⟩ = some (.slice Ai m ci) := by rw [cellOf hb1 (by simp)]; simp
      clear hb1
      go_wp2_with fail
      refine wp_gen ?_
      intro W1 hW1
      have hb2 : Below w.heap.size w W1 := by rw [hW1]; exact hb1'.alloc hb1'.size _
      have hs2 : W1.heap.size = w1.heap.size + 1 := by simp [hW1]
      have e0 : W1.cell? ⟨w.heap.size, 0, none⟩ = some (.bool st) := (cellOf (by rw [hW1]; go_grown : Below w1.heap.size w1 W1) hs1).trans k0
      have e1 : W1.cell? ⟨w.heap.size, 1, none⟩ = some (.slice Ai m ci) := (cellOf (by rw [hW1]; go_grown : Below w1.heap.size w1 W1) hs1).trans k1
      have e2 : W1.cell? ⟨w1.heap.size, 0, none⟩ = some (.slice A k k) := by rw [hW1]; simp
      clear hW1 k0 k1
      have hzk := hz.take k hkn
      have hends := fun i (hi : i ≤ k) W (hW : Below w.heap.size w W) b (hb : b < W.heap.size) (hc : W.cell? ⟨b, 0, none⟩ = some (.slice A k k)) =>
        matcher_ends b 0 A k k (zs.take k) Ai m ci xs i W (by omega) hm hi hb hc ((hzk.below hW).more hW.size) ((hx.below hW).more hW.size) (patB_items hp).2
      have hel := fun i (hi : i ≤ k) => (ends_fits (xs := xs) (l := zs.take k) (at_ := i) (j := k) (patB_items hp).2 (by rw [hzk.len]; exact hi) hi (by rw [hzk.len]; exact Nat.le_refl _)).trans (by rw [seg_of_take])
      have hout := fun i (hi : i ≤ k) => (outs_endsL (n := k) hzk.len xs [(i : Int)] (patB_items hp).2 ⟨fun x hx => by simp at hx; omega, by simp⟩).len
      have hgood := behindB_good (st := st) hp (by rw [Hlen.out]; exact hkn : k ≤ zs.length)
      have Hends := Lib.hid hends; have Hel := Lib.hid hel; have Hout := Lib.hid hout; have Hgood := Lib.hid hgood; have Hs2 := Lib.hid hs2
      have hlt2 : w1.heap.size < W1.heap.size := by omega
      clear hends hel hout hgood hs2
      go_loopw [31] (fun v wr => ∃ i : Nat, i ≤ k + 1 ∧ v = .int .i64 i ∧ (∀ j, j < i → mtB xs (seg zs j k) = false) ∧ (st = true → i = 0) ∧ Below w.heap.size w wr ∧ Below W1.heap.size W1 wr) (fun v _ => k + 1 - (RowKit.intOf v).toNat)
      case atStart => exact ⟨0, by omega, rfl, fun j h => absurd h (by omega), fun _ => rfl, hb2, Below.refl _ _⟩
      case round =>
        obtain ⟨i, hi, rfl, hno, hst, hbr, hbr2⟩ := hrel
        have Hst := Lib.hid hst
        have Hno := Lib.hid hno
        clear hst hno
        have q0 := (cellOf hbr2 (by omega)).trans e0
        have q1 := (cellOf hbr2 (by omega)).trans e1
        have q2 := (cellOf hbr2 hlt2).trans e2
        have hsr := hbr2.size
        rcases Nat.lt_or_ge i (k + 1) with hlt | hge
        · go_wp2_with fail
          refine (Hends.out i (by omega) wr hbr w1.heap.size (by omega) q2).mono ?_
          rintro e w2 ⟨A2, n2, c2, rfl, hI2, hb3⟩
          have hcont := contains_any A2 n2 c2 _ _ (k : Int) w2 hI2 (by have := Hout.out i (by omega); have := hI2.len; omega)
          rw [Hel.out i (by omega)] at hcont
          have hb4 : Below W1.heap.size W1 w2 := hbr2.trans (hb3.mono hsr)
          have hb5 : Below w.heap.size w w2 := hbr.trans (hb3.mono hbr.size)
          have q0' := (cellOf hb4 (by omega)).trans e0
          clear hb3 q0 q1 q2 hI2
          rcases hm2 : mtB xs (seg zs i k) with _ | _
          · rw [hm2] at hcont
            rcases hst2 : st with _ | _
            · subst hst2
              have hno2 : ∀ j, j < i + 1 → mtB xs (seg zs j k) = false := fun j hj => by
                rcases Nat.lt_or_ge j i with h | h
                · exact Hno.out j h
                · obtain rfl : j = i := by omega
                  exact hm2
              have Hno2 := Lib.hid hno2
              clear hm2 hno2
              go_wp2_with (go_at_call 261; refine hcont.mono ?_; rintro e w' ⟨rfl, rfl⟩)
              go_roundw
              case rel => first | exact ⟨i + 1, by omega, by go_num, Hno2.out, (fun h => by cases h), hb5, hb4⟩ | ((repeat apply Exists.intro); exact ⟨⟨i + 1, by omega, by go_num, Hno2.out, (fun h => by cases h), hb5, hb4⟩, rfl⟩)
              case measure => simp [RowKit.intOf]; omega
            · subst hst2
              have hi0 := Hst.out rfl
              subst hi0
              have hf : behindB true xs zs (k : Int) = false := by rw [Hgood.out]; simp [hm2]
              have Hf := Lib.hid hf
              clear hm2 hf
              go_wp2_with (go_at_call 261; refine hcont.mono ?_; rintro e w' ⟨rfl, rfl⟩)
              go_ret
              exact ⟨ret_bool Hf.out.symm, hb5⟩
          · rw [hm2] at hcont
            have hf : behindB st xs zs (k : Int) = true := by
              rw [Hgood.out, List.any_eq_true]
              refine ⟨i, ?_, hm2⟩
              rw [List.mem_range]
              split
              · rename_i h; have := Hst.out h; omega
              · omega
            have Hf := Lib.hid hf
            clear hm2 hf
            go_wp2_with (go_at_call 261; refine hcont.mono ?_; rintro e w' ⟨rfl, rfl⟩)
            go_ret
            exact ⟨ret_bool Hf.out.symm, hb5⟩
        · have hf : behindB st xs zs (k : Int) = false := by
            rw [Hgood.out, ← Bool.not_eq_true, List.any_eq_true]
            rintro ⟨j, hj, hm2⟩
            rw [List.mem_range] at hj
            rw [Hno.out j (by split at hj <;> omega)] at hm2
            cases hm2
          have Hf := Lib.hid hf
          clear hf
          go_wp2
          go_ret
          exact ⟨ret_bool Hf.out.symm, hbr⟩
    · have hf : behindB st xs zs a = false := by
        have h1 : (decide (0 ≤ a) && decide (a ≤ zs.length)) = false := by
          rw [Hlen.out]
          rw [← Bool.not_eq_true, Bool.and_eq_true, decide_eq_true_eq, decide_eq_true_eq]; exact hgood
        rw [behindB, ← Bool.and_assoc (decide (0 ≤ a)), h1]; simp
      rw [hf]
      clear hf
      have hg : a < 0 ∨ 0 ≤ a ∧ (n : Int) < a := by omega
      clear hgood
      rcases hg with hg | ⟨hg0, hg⟩
      · go_enter Tryz.func224, Tryz.ntmps224
        go_wp2_with fail
        refine (Hright.out _ (by go_grown)).mono ?_
        rintro e w1 ⟨rfl, hb1⟩
        rw [hp]
        have hb1' : Below w.heap.size w w1 := Below.trans (by go_grown) (hb1.mono (by simp))
        clear hb1
        go_wp2
        go_ret
        exact ⟨rfl, hb1'⟩
      · go_enter Tryz.func224, Tryz.ntmps224
        go_wp2_with fail
        refine (Hright.out _ (by go_grown)).mono ?_
        rintro e w1 ⟨rfl, hb1⟩
        rw [hp]
        have hb1' : Below w.heap.size w w1 := Below.trans (by go_grown) (hb1.mono (by simp))
        clear hb1
        go_wp2
        go_ret
        exact ⟨rfl, hb1'⟩
  · have hf : behindB st xs zs a = false := by simp [behindB, hp]
    rw [hf]
    have hp' : patB 32 xs = false := by simpa using hp
    clear hf hp
    go_enter Tryz.func224, Tryz.ntmps224
    go_wp2_with fail
    refine (Hright.out _ (by go_grown)).mono ?_
    rintro e w1 ⟨rfl, hb1⟩
    rw [hp']
    have hb1' : Below w.heap.size w w1 := Below.trans (by go_grown) (hb1.mono (by simp))
    clear hb1
    go_wp2
    go_ret
    exact ⟨rfl, hb1'⟩
end Go.Vir

/- pattern: Print. -/
namespace Go.Vir
open Go Go.RowKit Go.Proofs Go.Shelf
attribute [local go_sem] Oper.semAt_some

/-- An item's text. -/
def itemT (ss : List (List UInt8)) (x : Int × Int) : List UInt8 := (pcB x.1 ss).1 ++ Lib.repeatL [42] x.2.toNat
def outT (st : Bool) (xs : List (Int × Int)) (ss : List (List UInt8)) : List (List UInt8) := (if st then [[94]] else []) ++ xs.map (itemT ss)
/-- A pattern's text, and why there is none. -/
def ppB (st : Bool) (xs : List (Int × Int)) (ss : List (List UInt8)) : List UInt8 × Int :=
  if namesB ss then (if patB ss.length xs then (Lib.join (outT st xs ss) [32], 0) else ([], 80)) else ([], 2)

def outK (st : Bool) (xs : List (Int × Int)) (ss : List (List UInt8)) (k : Nat) : List (List UInt8) := (if st then [[94]] else []) ++ (xs.take k).map (itemT ss)
theorem outK_succ (st : Bool) (xs : List (Int × Int)) (ss : List (List UInt8)) (k : Nat) (h : k < xs.length) : outK st xs ss (k + 1) = outK st xs ss k ++ [itemT ss xs[k]] := by
  unfold outK
  rw [List.take_succ_eq_append_getElem h, List.map_append, List.append_assoc]
  rfl
theorem outK_all (st : Bool) (xs : List (Int × Int)) (ss : List (List UInt8)) (k : Nat) (h : xs.length ≤ k) : outK st xs ss k = outT st xs ss := by
  unfold outK outT; rw [List.take_of_length_le h]
theorem outK_len (st : Bool) (xs : List (Int × Int)) (ss : List (List UInt8)) (k : Nat) : (outK st xs ss k).length ≤ 1 + k := by
  unfold outK
  have := List.length_take_le k xs
  cases st <;> simp <;> omega
def strVs (l : List (List UInt8)) : List Value := l.map fun z => .string ⟨z.toArray⟩
theorem slice_own {W : World} {base : Nat} {v : Value} {l : List (List UInt8)} (h : W.ownsRow base 9 1 v l.length (strVs l)) : ∃ A n c, v = .slice A n c ∧ n = l.length ∧ n ≤ c ∧ Strs W W.heap.size A n l := by
  obtain ⟨A, n, c, rfl, hc, hn⟩ : ∃ A n c, v = .slice A n c ∧ n ≤ c ∧ n = l.length := by
    rcases h.2 with ⟨h1, h2⟩ | ⟨g, cap, cur, h1, _, _, hc, _⟩
    · exact ⟨_, _, _, h1, Nat.le_refl _, h2.symm⟩
    · exact ⟨_, _, _, h1, hc, rfl⟩
  rw [← hn] at h
  exact ⟨A, n, c, rfl, hn, hc, Strs.of_own h⟩

theorem cell_grownNil {W W' : World} {b o : Nat} (hg : W.grownBy W' (Value.slice none 0 0).ownBlock) (hb : b < W.heap.size) : W'.cell? ⟨b, o, none⟩ = W.cell? ⟨b, o, none⟩ :=
  World.cell?_of_block (hg.block b hb (by simp [Value.ownBlock]))
theorem printB_len {s : Int} {ss : List (List UInt8)} (hr : rightB s ss.length = true) (hs : ∀ x ∈ ss, x.length ≤ 1000) : (printB s ss).length ≤ 50000 := by
  have h1 := listB_len hr rfl hs
  have h2 := listB_len (rightB_not hr) rfl hs
  unfold printB
  split
  · simp
  · split
    · omega
    · split <;> simp <;> omega
theorem pcB_len {s : Int} {ss : List (List UInt8)} (hs : ∀ x ∈ ss, x.length ≤ 1000) : (pcB s ss).1.length ≤ 50000 := by
  unfold pcB
  split
  · split
    · rename_i h; exact printB_len h hs
    · simp
  · simp
theorem rep_len (k : Nat) : (Lib.repeatL [42] k).length = k := by simp [Lib.repeatL_length]

set_option maxRecDepth 100000 in
set_option maxHeartbeats 1600000 in
theorem pattern_Print (st : Bool) (Ai A : Option Addr) (m ci n c : Nat) (xs : List (Int × Int)) (ss : List (List UInt8)) (w : World) (hG : Globs w) (hx : Prs w w.heap.size Ai m xs) (hm : m ≤ 1000000) (hn : n ≤ 1000000) (hz : Strs w w.heap.size A n ss) (hs : ∀ x ∈ ss, x.length ≤ 1000) :
    Calls Tryz.prog 106 #[.agg #[.bool st, .slice Ai m ci], .slice A n c] w fun e w' => e = .returned (.tuple #[.string ⟨(ppB st xs ss).1.toArray⟩, .int .i64 (ppB st xs ss).2]) ∧ Below w.heap.size w w' := by
  have hs' : ∀ x ∈ ss, x.length ≤ 1000000 := fun x hx => by have := hs x hx; omega
  have hlen := hz.len
  have hnm := fun W (hW : Below w.heap.size w W) => prop_Names A n c ss W hn ((hz.below hW).more hW.size) hs'
  have hri := fun W (hW : Below w.heap.size w W) => pattern_Right st Ai m ci xs n W ((hx.below hW).more hW.size) hm
  have hgs := hG.size
  have Hnm := Lib.hid hnm
  have Hri := Lib.hid hri
  clear hnm hri hs'
  rcases hN : namesB ss with _ | _
  · have hp : ppB st xs ss = ([], 2) := by simp [ppB, hN]
    rw [hp]
    clear hp
    rw [hN] at Hnm
    clear hN
    go_enter Tryz.func106, Tryz.ntmps106
    go_wp2_with (go_at_call 25; refine (Hnm.out _ (by go_grown)).mono ?_; rintro e w1 ⟨rfl, hb1⟩)
    go_ret2
    exact ⟨rfl, Below.trans (by go_grown) (hb1.mono (by simp))⟩
  · rw [hN] at Hnm
    rcases hR : patB n xs with _ | _
    · have hp : ppB st xs ss = ([], 80) := by simp [ppB, hN, hlen, hR]
      rw [hp]
      rw [hR] at Hri
      clear hp hN hR
      obtain ⟨p, hgp⟩ := hG.pat
      have hgl : 1 < w.heap.size := by omega
      go_enter Tryz.func106, Tryz.ntmps106
      go_wp2_with (first
        | (go_at_call 25; refine (Hnm.out _ (by go_grown)).mono ?_; rintro e w1 ⟨rfl, hb1⟩; have hb2 : Below w.heap.size w w1 := Below.trans (by go_grown) (hb1.mono (by simp)); have k0 : w1.cell? ⟨w.heap.size, 0, none⟩ = some (.bool st) := (cellOf hb1 (by simp)).trans (by simp); have k1 : w1.cell? ⟨w.heap.size, 1, none⟩ = some (.slice Ai m ci) := (cellOf hb1 (by simp)).trans (by simp))
        | (go_at_call 143; refine (Hri.out w1 hb2).mono ?_; rintro e w3 ⟨rfl, hb3⟩; have hb4 := hb2.trans (hb3.mono hb2.size); have hg4 := (cellOf hb4 hgl).trans hgp)
        | (go_at_call 115; refine (pattern_told p w3 hg4).mono ?_; rintro e w5 ⟨rfl, rfl⟩))
      go_ret2
      exact ⟨rfl, hb4⟩
    · obtain ⟨i0, hi0, hz0, hz1, hz2⟩ := info_parts str_info
      have hp : ppB st xs ss = (Lib.join (outT st xs ss) [32], 0) := by simp [ppB, hN, hlen, hR]
      rw [hp]
      rw [hR] at Hri
      obtain ⟨hx10, hxr⟩ := patB_items hR
      have hxl := hx.len
      have Hxl := Lib.hid hxl
      have hm10 : m ≤ 10 := by omega
      have hout : ∀ t ∈ outT st xs ss, t.length ≤ 100000 := fun t ht => by
        unfold outT at ht
        rcases List.mem_append.1 ht with h | h
        · split at h
          · simp at h; subst h; simp
          · cases h
        · obtain ⟨x, hx, rfl⟩ := List.mem_map.1 h
          have h1 := pcB_len (s := x.1) hs
          have h2 := hxr x hx
          simp only [itemT, List.length_append, rep_len]
          omega
      have houtl : (outT st xs ss).length ≤ 11 := by
        unfold outT
        split <;> simp <;> omega
      have hcp := fun s W (hW : Below w.heap.size w W) => class_Print s A n c ss W (hG.below hW) hn ((hz.below hW).more hW.size) hs
      have Hcp := Lib.hid hcp
      have Hout := Lib.hid hout
      clear hp hN hR hxl hcp hout hlen
      rcases st with _ | _
      · go_enter Tryz.func106, Tryz.ntmps106
        go_wp2_with (first
          | (go_at_call 25; refine (Hnm.out _ (by go_grown)).mono ?_; rintro e w1 ⟨rfl, hb1⟩; have hb2 : Below w.heap.size w w1 := Below.trans (by go_grown) (hb1.mono (by simp)); have k0 : w1.cell? ⟨w.heap.size, 0, none⟩ = some (.bool false) := (cellOf hb1 (by simp)).trans (by simp); have k1 : w1.cell? ⟨w.heap.size, 1, none⟩ = some (.slice Ai m ci) := (cellOf hb1 (by simp)).trans (by simp))
          | (go_at_call 143; refine (Hri.out w1 hb2).mono ?_; rintro e w3 ⟨rfl, hb3⟩; have hb4 := hb2.trans (hb3.mono hb2.size); have hs1 : w.heap.size < w1.heap.size := (by have := hb1.size; simp at this; omega); have k3 := (cellOf hb3 hs1).trans k0; have k4 := (cellOf hb3 hs1).trans k1))
        have hown0 : w3.ownsRow w.heap.size 9 1 (.slice none 0 0) (outK false xs ss 0).length (strVs (outK false xs ss 0)) := World.ownsRow_nil _ _ _ _
        go_loopw [6, 32] (fun v i wr => ∃ k : Nat, k ≤ m ∧ i = .int .i64 (k : Int) ∧ Below w.heap.size w wr ∧ wr.ownsRow w.heap.size 9 1 v (outK false xs ss k).length (strVs (outK false xs ss k))) (fun _ i _ => m - (RowKit.intOf i).toNat)
        case atStart => exact ⟨0, Nat.zero_le _, rfl, hb4, hown0⟩
        case round =>
          obtain ⟨k, hk, rfl, hbr, hown⟩ := hrel
          rcases Nat.lt_or_ge k m with hlt | hge
          · obtain ⟨xb, xo, rfl, hxb, hxc⟩ := hx.at_ (by omega)
            have hkx : k < xs.length := by have := Hxl.out; omega
            have hz' := hxc k hkx
            have z1 := (cellOf hbr hxb).trans hz'.1
            have z2 := (cellOf hbr hxb).trans hz'.2
            obtain ⟨hr0, hr2⟩ := hxr xs[k] (List.getElem_mem _)
            have Hsu := Lib.hid (outK_succ false xs ss k hkx)
            have hol := outK_len false xs ss k
            clear hz' hxc
            generalize xs[k] = x at *
            obtain ⟨s, h⟩ := x
            obtain ⟨q, rfl⟩ := Int.eq_ofNat_of_zero_le hr0
            simp only at z1 z2 hr0 hr2
            have hpl := pcB_len (s := s) hs
            have hql : (Lib.repeatL [42] q).length ≤ 2 := by rw [rep_len]; omega
            have hitem : ((⟨(pcB s ss).1.toArray⟩ : ByteArray) ++ ⟨(Lib.repeatL [42] q).toArray⟩) = ⟨(itemT ss (s, (q : Int))).toArray⟩ := by
              rw [bytes_app]; simp [itemT]
            have Hitem := Lib.hid hitem
            clear hitem
            go_wp2_with fail
            refine (Hcp.out s _ (hbr.alloc hbr.size _)).mono ?_
            rintro e w5 ⟨rfl, hb5⟩
            have hb6 : Below w.heap.size w w5 := (hbr.alloc hbr.size _).trans (hb5.mono (by simp; have := hbr.size; omega))
            have hs5 : wr.heap.size < w5.heap.size := by have := hb5.size; simp at this; omega
            have y1 : w5.cell? ⟨wr.heap.size, 1, none⟩ = some (.int .i64 (q : Int)) := (cellOf hb5 (by simp)).trans (by simp)
            have hown5 := ownsRow_below (ownsRow_below hown ((Below.refl _ _).alloc (Nat.le_refl _) (.cells #[.int .i64 s, .int .i64 (q : Int)] 167))) hb5
            clear z1 z2 hown hb5
            have hrp := Tryz.strings_Repeat ⟨#[42]⟩ q w5 (by omega) (by show 1 * q ≤ _; omega)
            go_wp2_with (first
              | (go_at_call 147; refine hrp.mono ?_; rintro e w7 ⟨rfl, hb7⟩; have hown7 := ownsRow_below hown5 hb7; have hb8 := hb6.trans (hb7.mono hb6.size))
              | (at_builtin; refine wpList_append_at _ rfl _ _ 23 rfl w.heap.size 9 i0 (.string ⟨#[]⟩) 1 16 Tryz.underlying23 hi0 hz0 hz1 hz2 rfl (by decide) _ _ _ rfl (hown7.alloc _) ⟨w7.heap.size, 0, none⟩ 1 1 [.string ((⟨(pcB s ss).1.toArray⟩ : ByteArray) ++ ⟨(Lib.repeatL [42] q).toArray⟩)] rfl rfl (cell_one_new _ _ _) (by simp [Value.oneCell']) (by simp only [maxLen]; omega) (by omega) (by have := hb8.size; simp; omega) ?_; intro v' w9 hown9 hgrow hat))
            go_roundw
            case rel =>
              refine ⟨k + 1, by omega, by go_num, ?_, ?_⟩
              · refine (hb8.alloc hb8.size _).grown hgrow (by have := hb8.size; simp; omega) (fun g hg => ?_)
                exact (row_data hown7 g hg).1
              · rw [Hsu.out, List.length_append]
                have he : strVs (outK false xs ss k ++ [itemT ss (s, (q : Int))]) = strVs (outK false xs ss k) ++ [.string ((⟨(pcB s ss).1.toArray⟩ : ByteArray) ++ ⟨(Lib.repeatL [42] q).toArray⟩)] := by
                  rw [Hitem.out]; simp [strVs]
                rw [he]
                exact hown9
            case measure => simp [RowKit.intOf]; omega
          · rw [outK_all false xs ss k (by rw [Hxl.out]; exact hge)] at hown
            obtain ⟨A', n', c', rfl, hn', hc', hS'⟩ := slice_own hown
            have hj := join_strs A' n' c' _ _ 32 wr hS' (Nat.le_refl _) hc' (by omega) Hout.out
            clear hn' hown
            go_wp2_with (go_at_call 108; refine hj.mono ?_; rintro e w5 ⟨rfl, hb5⟩)
            go_ret2
            exact ⟨rfl, hbr.trans (hb5.mono hbr.size)⟩
      · go_enter Tryz.func106, Tryz.ntmps106
        go_wp2_with (first
          | (go_at_call 25; refine (Hnm.out _ (by go_grown)).mono ?_; rintro e w1 ⟨rfl, hb1⟩; have hb2 : Below w.heap.size w w1 := Below.trans (by go_grown) (hb1.mono (by simp)); have k0 : w1.cell? ⟨w.heap.size, 0, none⟩ = some (.bool true) := (cellOf hb1 (by simp)).trans (by simp); have k1 : w1.cell? ⟨w.heap.size, 1, none⟩ = some (.slice Ai m ci) := (cellOf hb1 (by simp)).trans (by simp))
          | (go_at_call 143; refine (Hri.out w1 hb2).mono ?_; rintro e w3 ⟨rfl, hb3⟩; have hb4 := hb2.trans (hb3.mono hb2.size); have hs1 : w.heap.size < w1.heap.size := (by have := hb1.size; simp at this; omega); have k3 := (cellOf hb3 hs1).trans k0; have k4 := (cellOf hb3 hs1).trans k1)
          | (at_builtin; refine wpList_append_at _ rfl _ _ 23 rfl w.heap.size 9 i0 (.string ⟨#[]⟩) 1 16 Tryz.underlying23 hi0 hz0 hz1 hz2 rfl (by decide) (.slice none 0 0) 0 [] rfl (World.ownsRow_nil _ _ _ _) ⟨w3.heap.size, 0, none⟩ 1 1 [.string ⟨#[94]⟩] rfl rfl (cell_one_new _ _ _) (by simp [Value.oneCell']) (by simp only [maxLen]; omega) (by omega) (by have := hb4.size; simp; omega) ?_; intro v0 wA hownA hgrowA hatA; have hbA : Below w.heap.size w wA := (hb4.alloc hb4.size _).grown hgrowA (by have := hb4.size; simp; omega) (fun g hg => by simp [Value.ownBlock] at hg); have k5 : wA.cell? ⟨w.heap.size, 1, none⟩ = some (.slice Ai m ci) := (cell_grownNil hgrowA (by have := hb3.size; simp; omega)).trans ((World.cell?_alloc_lt _ _ _ (by show w.heap.size < _; have := hb3.size; omega)).trans k4)))
        have hown0 : wA.ownsRow w.heap.size 9 1 v0 (outK true xs ss 0).length (strVs (outK true xs ss 0)) := hownA
        clear hatA hgrowA hownA
        go_loopw [6, 32] (fun v i wr => ∃ k : Nat, k ≤ m ∧ i = .int .i64 (k : Int) ∧ Below w.heap.size w wr ∧ wr.ownsRow w.heap.size 9 1 v (outK true xs ss k).length (strVs (outK true xs ss k))) (fun _ i _ => m - (RowKit.intOf i).toNat)
        case atStart => exact ⟨0, Nat.zero_le _, rfl, hbA, hown0⟩
        case round =>
          obtain ⟨k, hk, rfl, hbr, hown⟩ := hrel
          rcases Nat.lt_or_ge k m with hlt | hge
          · obtain ⟨xb, xo, rfl, hxb, hxc⟩ := hx.at_ (by omega)
            have hkx : k < xs.length := by have := Hxl.out; omega
            have hz' := hxc k hkx
            have z1 := (cellOf hbr hxb).trans hz'.1
            have z2 := (cellOf hbr hxb).trans hz'.2
            obtain ⟨hr0, hr2⟩ := hxr xs[k] (List.getElem_mem _)
            have Hsu := Lib.hid (outK_succ true xs ss k hkx)
            have hol := outK_len true xs ss k
            clear hz' hxc
            generalize xs[k] = x at *
            obtain ⟨s, h⟩ := x
            obtain ⟨q, rfl⟩ := Int.eq_ofNat_of_zero_le hr0
            simp only at z1 z2 hr0 hr2
            have hpl := pcB_len (s := s) hs
            have hql : (Lib.repeatL [42] q).length ≤ 2 := by rw [rep_len]; omega
            have hitem : ((⟨(pcB s ss).1.toArray⟩ : ByteArray) ++ ⟨(Lib.repeatL [42] q).toArray⟩) = ⟨(itemT ss (s, (q : Int))).toArray⟩ := by
              rw [bytes_app]; simp [itemT]
            have Hitem := Lib.hid hitem
            clear hitem
            go_wp2_with fail
            refine (Hcp.out s _ (hbr.alloc hbr.size _)).mono ?_
            rintro e w5 ⟨rfl, hb5⟩
            have hb6 : Below w.heap.size w w5 := (hbr.alloc hbr.size _).trans (hb5.mono (by simp; have := hbr.size; omega))
            have hs5 : wr.heap.size < w5.heap.size := by have := hb5.size; simp at this; omega
            have y1 : w5.cell? ⟨wr.heap.size, 1, none⟩ = some (.int .i64 (q : Int)) := (cellOf hb5 (by simp)).trans (by simp)
            have hown5 := ownsRow_below (ownsRow_below hown ((Below.refl _ _).alloc (Nat.le_refl _) (.cells #[.int .i64 s, .int .i64 (q : Int)] 167))) hb5
            clear z1 z2 hown hb5
            have hrp := Tryz.strings_Repeat ⟨#[42]⟩ q w5 (by omega) (by show 1 * q ≤ _; omega)
            go_wp2_with (first
              | (go_at_call 147; refine hrp.mono ?_; rintro e w7 ⟨rfl, hb7⟩; have hown7 := ownsRow_below hown5 hb7; have hb8 := hb6.trans (hb7.mono hb6.size))
              | (at_builtin; refine wpList_append_at _ rfl _ _ 23 rfl w.heap.size 9 i0 (.string ⟨#[]⟩) 1 16 Tryz.underlying23 hi0 hz0 hz1 hz2 rfl (by decide) _ _ _ rfl (hown7.alloc _) ⟨w7.heap.size, 0, none⟩ 1 1 [.string ((⟨(pcB s ss).1.toArray⟩ : ByteArray) ++ ⟨(Lib.repeatL [42] q).toArray⟩)] rfl rfl (cell_one_new _ _ _) (by simp [Value.oneCell']) (by simp only [maxLen]; omega) (by omega) (by have := hb8.size; simp; omega) ?_; intro v' w9 hown9 hgrow hat))
            go_roundw
            case rel =>
              refine ⟨k + 1, by omega, by go_num, ?_, ?_⟩
              · refine (hb8.alloc hb8.size _).grown hgrow (by have := hb8.size; simp; omega) (fun g hg => ?_)
                exact (row_data hown7 g hg).1
              · rw [Hsu.out, List.length_append]
                have he : strVs (outK true xs ss k ++ [itemT ss (s, (q : Int))]) = strVs (outK true xs ss k) ++ [.string ((⟨(pcB s ss).1.toArray⟩ : ByteArray) ++ ⟨(Lib.repeatL [42] q).toArray⟩)] := by
                  rw [Hitem.out]; simp [strVs]
                rw [he]
                exact hown9
            case measure => simp [RowKit.intOf]; omega
          · rw [outK_all true xs ss k (by rw [Hxl.out]; exact hge)] at hown
            obtain ⟨A', n', c', rfl, hn', hc', hS'⟩ := slice_own hown
            have hj := join_strs A' n' c' _ _ 32 wr hS' (Nat.le_refl _) hc' (by omega) Hout.out
            clear hn' hown
            go_wp2_with (go_at_call 108; refine hj.mono ?_; rintro e w5 ⟨rfl, hb5⟩)
            go_ret2
            exact ⟨rfl, hbr.trans (hb5.mono hbr.size)⟩
end Go.Vir

/- rule.text: its closure, and the rounds over the table of marks. -/
namespace Go.Vir
open Go Go.RowKit Go.Proofs Go.Shelf
attribute [local go_sem] Oper.semAt_some

/-- A text behind others, if there is one. -/
def addL (l : List (List UInt8)) (s : List UInt8) : List (List UInt8) := if s = [] then l else l ++ [s]

/-- What add leaves: the list in the box, longer by a text that is not empty. -/
def AddEnd (w : World) (b base : Nat) (v0 : Value) (l : List (List UInt8)) (e : Ending) (w' : World) : Prop :=
  (∃ x : Value, e = .returned x) ∧ ∃ v : Value, Boxed w' b 23 v ∧ w'.ownsRow base 9 1 v l.length (strVs l) ∧ Below base w w' ∧ ∀ k : Nat, k < w.heap.size → k ≠ b → some k ≠ v0.ownBlock → w'.heap[k]? = w.heap[k]?

theorem not_row_obj {W : World} {k : Nat} {o : Obj} (h : W.heap[k]? = some o) (ho : ∀ cs t f, o ≠ .cells cs t f) {base size n : Nat} {e : TypeId} {v : Value} {xs : List Value} (hr : W.ownsRow base e size v n xs) : some k ≠ v.ownBlock := by
  rcases hr.2 with ⟨rfl, _⟩ | ⟨g, cap, cur, rfl, _, hg, _⟩
  · simp [Value.ownBlock]
  · intro hk
    have : k = g := by simpa [Value.ownBlock] using hk
    subst this
    rw [h] at hg
    exact ho _ _ _ (Option.some.inj hg)

set_option maxRecDepth 100000 in
set_option maxHeartbeats 1600000 in
theorem rule_add (b base : Nat) (s : List UInt8) (l : List (List UInt8)) (v : Value) (w : World) (hv : Boxed w b 23 v) (hown : w.ownsRow base 9 1 v l.length (strVs l)) (hb : base ≤ b) (hl : l.length ≤ 1000) :
    Calls Tryz.prog 105 #[.string ⟨s.toArray⟩, .pointer (some ⟨b, 0, none⟩)] w (AddEnd w b base v (addL l s)) := by
  unfold addL
  obtain ⟨i0, hi0, hz0, hz1, hz2⟩ := info_parts str_info
  have c0 := hv.cell
  have hlt := hv.lt
  rcases hs : s with _ | ⟨y, t⟩
  · rw [if_pos rfl]
    go_enter Tryz.func105, Tryz.ntmps105
    go_wp2_with fail
    go_end0
    exact ⟨⟨_, rfl⟩, v, hv, hown, Below.refl _ _, fun k _ _ _ => rfl⟩
  · rw [if_neg (by simp)]
    have he3 : (y :: t).isEmpty = false := rfl
    have he4 : ¬ (y :: t = []) := by simp
    generalize y :: t = u at *
    have hown1 := hown.alloc (.cells #[.string ⟨u.toArray⟩] 9)
    have hcs : ∀ (j : Nat) (x : Value), [Value.string ⟨u.toArray⟩][j]? = some x → (w.alloc (.cells #[.string ⟨u.toArray⟩] 9)).cell? ((⟨w.heap.size, 0, none⟩ : Addr).add j) = some x := cell_one_new w _ _
    have Hcs := Lib.hid hcs
    have Hv := Lib.hid hv
    clear hcs hs
    go_enter Tryz.func105, Tryz.ntmps105
    go_wp2_with (at_builtin; refine wpList_append_at _ rfl _ _ 23 rfl base 9 i0 (.string ⟨#[]⟩) 1 16 Tryz.underlying23 hi0 hz0 hz1 hz2 rfl (by decide) _ _ _ rfl hown1 ⟨w.heap.size, 0, none⟩ 1 1 [.string ⟨u.toArray⟩] rfl rfl Hcs.out (by simp [Value.oneCell']) (by simp only [maxLen]; omega) (by omega) (by simp; omega) ?_; intro v' w1 hown' hgrow hat; obtain ⟨g', cap', rfl⟩ := ownsRow_succ hown'; have hap := Boxed.appended (t := 23) Hv.out (by decide) hown (by omega) hb hown' hgrow; obtain ⟨hv1, hv2, hr2, hk2, hb2⟩ := hap; have hc1 := hv1.cell; have hf1 := hv1.frozen)
    go_end0
    have hl2 : strVs (l ++ [u]) = strVs l ++ [.string ⟨u.toArray⟩] := by simp [strVs]
    refine ⟨⟨_, rfl⟩, _, hv2, ?_, hb2, fun k hk hkb hkv => ?_⟩
    · rw [hl2, List.length_append]; exact hr2
    · rw [Below.heap_setCell _ _ _ _ hkb, hgrow.block k (by simp; omega) hkv, heap_old hk]
end Go.Vir

/- What rules of boundaries say: plain laws on lists. -/
namespace Go.Vir

/-- P11.1: a rule: what stands ahead, what behind, whether there is a boundary. -/
structure RuleV where
  sl : Bool
  xl : List (Int × Int)
  sr : Bool
  xr : List (Int × Int)
  br : Bool
deriving DecidableEq, Inhabited

def ruleOk (n : Int) (x : RuleV) : Bool := patB n x.xl && (patB n x.xr && !x.sr)
def rulesB (n : Int) (rs : List RuleV) : Bool := decide (1 ≤ n) && (decide (n ≤ 32) && (decide (rs.length ≤ 40) && rs.all (ruleOk n)))
def appB (l : List Int) (at_ : Int) (x : RuleV) : Bool := ruleOk 32 x && (decide (0 < at_) && (decide (at_ < l.length) && (behindB x.sl x.xl l at_ && aheadB x.sr x.xr l at_)))
def sayB (l : List Int) (at_ : Int) : List RuleV → Nat → Bool × Int
  | [], _ => (true, -1)
  | x :: rs, i => if appB l at_ x then (x.br, (i : Int)) else sayB l at_ rs (i + 1)
def decideB (rs : List RuleV) (l : List Int) (at_ : Int) : Bool × Int := if rulesB 32 rs && (decide (0 < at_) && decide (at_ < l.length)) then sayB l at_ rs 0 else (false, -1)
/-- The boundaries ahead of place k, but for 0. -/
def insB (rs : List RuleV) (l : List Int) (k : Nat) : List Int := ((List.range k).filter fun (a : Nat) => decide (0 < a) && (sayB l (a : Int) rs 0).1).map fun (a : Nat) => (a : Int)
def cutsB (rs : List RuleV) (l : List Int) : List Int × Int :=
  if rulesB 32 rs then (0 :: (insB rs l l.length ++ (if 0 < l.length then [(l.length : Int)] else [])), 0) else ([], 90)

theorem insB_succ (rs : List RuleV) (l : List Int) (k : Nat) (hk : 0 < k) : insB rs l (k + 1) = insB rs l k ++ (if (sayB l (k : Int) rs 0).1 then [(k : Int)] else []) := by
  unfold insB
  rw [List.range_succ, List.filter_append, List.map_append]
  congr 1
  cases h : (sayB l (k : Int) rs 0).1 <;> simp [h, hk]
theorem insB_one (rs : List RuleV) (l : List Int) : insB rs l 1 = [] := by simp [insB]
theorem insB_mem (rs : List RuleV) (l : List Int) (k : Nat) (x : Int) : x ∈ insB rs l k ↔ ∃ a : Nat, x = a ∧ 0 < a ∧ a < k ∧ (sayB l (a : Int) rs 0).1 = true := by
  simp only [insB, List.mem_map, List.mem_filter, List.mem_range, Bool.and_eq_true, decide_eq_true_eq]
  constructor
  · rintro ⟨a, ⟨h1, h2, h3⟩, rfl⟩; exact ⟨a, rfl, h2, h1, h3⟩
  · rintro ⟨a, rfl, h2, h1, h3⟩; exact ⟨a, ⟨h1, h2, h3⟩, rfl⟩
theorem insB_len (rs : List RuleV) (l : List Int) (k : Nat) : (insB rs l k).length ≤ k := by
  unfold insB
  rw [List.length_map]
  exact Nat.le_trans (List.length_filter_le _ _) (by simp)

theorem sayB_ge (l : List Int) (at_ : Int) : ∀ (rs : List RuleV) (i : Nat), ((sayB l at_ rs i).2 = -1 ∧ (sayB l at_ rs i).1 = true) ∨ ((i : Int) ≤ (sayB l at_ rs i).2 ∧ (sayB l at_ rs i).2 < i + rs.length)
  | [], i => .inl ⟨rfl, rfl⟩
  | x :: rs, i => by
    unfold sayB
    split
    · exact .inr ⟨Int.le_refl _, by simp; omega⟩
    · rcases sayB_ge l at_ rs (i + 1) with h | ⟨h1, h2⟩
      · exact .inl h
      · exact .inr ⟨by omega, by simp at h2 ⊢; omega⟩

theorem sayB_shift (l : List Int) (at_ : Int) : ∀ (rs : List RuleV) (i m : Nat), sayB l at_ rs (i + m) = ((sayB l at_ rs i).1, if (sayB l at_ rs i).2 < 0 then (sayB l at_ rs i).2 else (sayB l at_ rs i).2 + m)
  | [], i, m => by simp [sayB]
  | x :: rs, i, m => by
    unfold sayB
    split
    · have : ¬ ((i : Int) < 0) := by omega
      simp [this]
    · rw [show i + m + 1 = (i + 1) + m by omega, sayB_shift l at_ rs (i + 1) m]

theorem sayB_app (l : List Int) (at_ : Int) (ys : List RuleV) : ∀ (xs : List RuleV) (i : Nat), sayB l at_ (xs ++ ys) i = if (sayB l at_ xs i).2 < 0 then sayB l at_ ys (i + xs.length) else sayB l at_ xs i
  | [], i => by simp [sayB]
  | x :: xs, i => by
    rw [List.cons_append]
    by_cases h : appB l at_ x = true
    · have : ¬ ((i : Int) < 0) := by omega
      simp [sayB, h, this]
    · simp only [sayB, h, if_false, Bool.false_eq_true, sayB_app l at_ ys xs (i + 1), List.length_cons]
      rw [show i + 1 + xs.length = i + (xs.length + 1) by omega]

theorem rulesB_app (n : Int) (xs ys : List RuleV) (hl : xs.length + ys.length ≤ 40) : rulesB n (xs ++ ys) = (rulesB n xs && rulesB n ys) := by
  have h1 : xs.length ≤ 40 := by omega
  have h2 : ys.length ≤ 40 := by omega
  unfold rulesB
  simp only [List.length_append, hl, h1, h2, List.all_append, decide_true, Bool.true_and]
  cases decide (1 ≤ n) <;> cases decide (n ≤ 32) <;> simp

theorem decideB_bad {rs : List RuleV} {l : List Int} {at_ : Int} (h : rulesB 32 rs = false ∨ at_ ≤ 0 ∨ (l.length : Int) ≤ at_) : decideB rs l at_ = (false, -1) := by
  unfold decideB
  rw [if_neg]
  simp only [Bool.and_eq_true, decide_eq_true_eq]
  rintro ⟨a, b, c⟩
  rcases h with h | h | h
  · rw [a] at h; cases h
  · omega
  · omega
theorem decideB_good {rs : List RuleV} {l : List Int} {at_ : Int} (h : rulesB 32 rs = true) (h0 : 0 < at_) (h1 : at_ < (l.length : Int)) : decideB rs l at_ = sayB l at_ rs 0 := by
  unfold decideB
  rw [if_pos]
  simp [h, h0, h1]

/-- The rules that say the other way about. -/
def turnR (x : RuleV) : RuleV := { x with br := !x.br }
theorem appB_turn (l : List Int) (at_ : Int) (x : RuleV) : appB l at_ (turnR x) = appB l at_ x := rfl
theorem rulesB_turn (n : Int) (rs : List RuleV) : rulesB n (rs.map turnR) = rulesB n rs := by
  unfold rulesB
  rw [List.length_map, List.all_map]
  rfl
theorem sayB_turn (l : List Int) (at_ : Int) : ∀ (rs : List RuleV) (i : Nat), sayB l at_ (rs.map turnR) i = if (sayB l at_ rs i).2 < 0 then sayB l at_ rs i else (!(sayB l at_ rs i).1, (sayB l at_ rs i).2)
  | [], i => by simp [sayB]
  | x :: rs, i => by
    simp only [List.map_cons, sayB, appB_turn]
    by_cases h : appB l at_ x = true
    · have : ¬ ((i : Int) < 0) := by omega
      simp [h, this, turnR]
    · simp only [h, if_false, Bool.false_eq_true]
      exact sayB_turn l at_ rs (i + 1)

theorem cuts_mem {rs : List RuleV} {l : List Int} {at_ : Int} (h : rulesB 32 rs = true) (h0 : 0 < at_) (h1 : at_ < (l.length : Int)) : (cutsB rs l).1.contains at_ = (sayB l at_ rs 0).1 := by
  obtain ⟨a, rfl⟩ := Int.eq_ofNat_of_zero_le (Int.le_of_lt h0)
  have ha : ¬ ((a : Int) = 0) := by omega
  have hb : 0 < l.length := by omega
  have hc : ¬ ((a : Int) = (l.length : Int)) := by omega
  rw [Bool.eq_iff_iff, List.contains_iff_mem]
  unfold cutsB
  rw [if_pos h, if_pos hb]
  simp only [List.mem_cons, List.mem_append, ha, false_or, insB_mem, List.not_mem_nil, or_false, hc]
  constructor
  · rintro ⟨b, e, _, _, hs⟩
    rw [e]; exact hs
  · intro hs
    exact ⟨a, rfl, by omega, by omega, hs⟩

theorem cuts_twice {rs : List RuleV} {l : List Int} (hl : rs.length ≤ 20) : cutsB (rs ++ rs) l = cutsB rs l := by
  have hr : rulesB 32 (rs ++ rs) = rulesB 32 rs := by rw [rulesB_app 32 rs rs (by omega), Bool.and_self]
  have hs : ∀ at_ : Int, (sayB l at_ (rs ++ rs) 0).1 = (sayB l at_ rs 0).1 := fun at_ => by
    rw [sayB_app]
    split
    · rw [Nat.zero_add, show rs.length = 0 + rs.length by omega, sayB_shift]
    · rfl
  unfold cutsB
  rw [hr]
  have hi : insB (rs ++ rs) l l.length = insB rs l l.length := by
    unfold insB
    simp only [hs]
  rw [hi]

/-- From the end on: what the rules from place i on say. -/
theorem sayB_drop {l : List Int} {at_ : Int} {rs : List RuleV} {i : Nat} (h : i < rs.length) :
    sayB l at_ (rs.drop i) i = if appB l at_ rs[i] then (rs[i].br, (i : Int)) else sayB l at_ (rs.drop (i + 1)) (i + 1) := by
  rw [List.drop_eq_getElem_cons h]
  rfl
end Go.Vir

/- The walks of rule: areRight, Right, Applies. -/
namespace Go.Vir
open Go Go.RowKit Go.Proofs Go.Shelf
attribute [local go_sem] Oper.semAt_some

/-- A rule's cells, as a value. -/
def ruleV (x : RuleV) (Al : Option Addr) (ml cl : Nat) (Ar : Option Addr) (mr cr : Nat) : Value := .agg #[.bool x.sl, .slice Al ml cl, .bool x.sr, .slice Ar mr cr, .bool x.br]
/-- A rule's items lie in memory. -/
structure RuleM (w : World) (B : Nat) (x : RuleV) (Al : Option Addr) (ml cl : Nat) (Ar : Option Addr) (mr cr : Nat) : Prop where
  left : Prs w B Al ml x.xl
  right : Prs w B Ar mr x.xr
  lb : ml ≤ 1000
  rb : mr ≤ 1000
/-- A rule at a place. -/
def RuleAt (w : World) (B b o : Nat) (x : RuleV) : Prop :=
  ∃ Al ml cl Ar mr cr, w.cell? ⟨b, o, none⟩ = some (.bool x.sl) ∧ w.cell? ⟨b, o + 1, none⟩ = some (.slice Al ml cl) ∧ w.cell? ⟨b, o + 2, none⟩ = some (.bool x.sr) ∧ w.cell? ⟨b, o + 3, none⟩ = some (.slice Ar mr cr) ∧
    w.cell? ⟨b, o + 4, none⟩ = some (.bool x.br) ∧ RuleM w B x Al ml cl Ar mr cr
/-- A slice of rules. -/
structure Rls (w : World) (B : Nat) (A : Option Addr) (n : Nat) (rs : List RuleV) : Prop where
  len : rs.length = n
  at_ : 0 < n → ∃ b o, A = some ⟨b, o, none⟩ ∧ b < B ∧ ∀ (j : Nat) (h : j < rs.length), RuleAt w B b (o + j * 5) rs[j]

section
variable {w w' : World} {B B' n : Nat} {A : Option Addr}
theorem RuleM.below {x : RuleV} {Al Ar : Option Addr} {ml cl mr cr : Nat} (h : RuleM w B x Al ml cl Ar mr cr) (hb : Below B w w') : RuleM w' B x Al ml cl Ar mr cr := ⟨h.left.below hb, h.right.below hb, h.lb, h.rb⟩
theorem RuleM.more {x : RuleV} {Al Ar : Option Addr} {ml cl mr cr : Nat} (h : RuleM w B x Al ml cl Ar mr cr) (hB : B ≤ B') : RuleM w B' x Al ml cl Ar mr cr := ⟨h.left.more hB, h.right.more hB, h.lb, h.rb⟩
theorem RuleAt.below {x : RuleV} {b o : Nat} (h : RuleAt w B b o x) (hb : Below B w w') (hlt : b < B) : RuleAt w' B b o x := by
  obtain ⟨Al, ml, cl, Ar, mr, cr, c0, c1, c2, c3, c4, hm⟩ := h
  exact ⟨Al, ml, cl, Ar, mr, cr, (cellOf hb hlt).trans c0, (cellOf hb hlt).trans c1, (cellOf hb hlt).trans c2, (cellOf hb hlt).trans c3, (cellOf hb hlt).trans c4, hm.below hb⟩
theorem RuleAt.more {x : RuleV} {b o : Nat} (h : RuleAt w B b o x) (hB : B ≤ B') : RuleAt w B' b o x := by
  obtain ⟨Al, ml, cl, Ar, mr, cr, c0, c1, c2, c3, c4, hm⟩ := h
  exact ⟨Al, ml, cl, Ar, mr, cr, c0, c1, c2, c3, c4, hm.more hB⟩
theorem Rls.below {rs : List RuleV} (h : Rls w B A n rs) (hb : Below B w w') : Rls w' B A n rs :=
  ⟨h.len, fun hn => let ⟨b, o, e, hlt, hc⟩ := h.at_ hn; ⟨b, o, e, hlt, fun j hj => (hc j hj).below hb hlt⟩⟩
theorem Rls.more {rs : List RuleV} (h : Rls w B A n rs) (hB : B ≤ B') : Rls w B' A n rs :=
  ⟨h.len, fun hn => let ⟨b, o, e, hlt, hc⟩ := h.at_ hn; ⟨b, o, e, by omega, fun j hj => (hc j hj).more hB⟩⟩
theorem Rls.nil (w : World) (B : Nat) (A : Option Addr) : Rls w B A 0 [] := ⟨rfl, fun h => absurd h (by omega)⟩
theorem Rls.take {rs : List RuleV} (h : Rls w B A n rs) (k : Nat) (hk : k ≤ n) : Rls w B A k (rs.take k) := by
  refine ⟨by rw [List.length_take, h.len]; omega, fun h0 => ?_⟩
  obtain ⟨b, o, e, hlt, hc⟩ := h.at_ (by omega)
  refine ⟨b, o, e, hlt, fun j hj => ?_⟩
  rw [List.getElem_take]
  exact hc j (by rw [List.length_take] at hj; omega)
end

set_option maxRecDepth 100000 in
set_option maxHeartbeats 800000 in
theorem areRight1 (x : RuleV) (Al Ar : Option Addr) (ml cl mr cr : Nat) (n : Int) (b : Nat) (w : World) (hm : RuleM w w.heap.size x Al ml cl Ar mr cr) (hn : w.cell? ⟨b, 0, none⟩ = some (.int .i64 n)) (hb : b < w.heap.size) :
    Calls Tryz.prog 142 #[ruleV x Al ml cl Ar mr cr, .pointer (some ⟨b, 0, none⟩)] w fun e w' => e = .returned (.bool (!ruleOk n x)) ∧ Below w.heap.size w w' := by
  obtain ⟨sl, xl, sr, xr, br⟩ := x
  obtain ⟨hl, hr, hlb, hrb⟩ := hm
  simp only at hl hr
  have hp1 := fun W (hW : Below w.heap.size w W) => pattern_Right sl Al ml cl xl n W ((hl.below hW).more hW.size) (by omega)
  have hp2 := fun W (hW : Below w.heap.size w W) => pattern_Right sr Ar mr cr xr n W ((hr.below hW).more hW.size) (by omega)
  have Hp1 := Lib.hid hp1
  have Hp2 := Lib.hid hp2
  clear hp1 hp2 hl hr
  simp only [ruleV, ruleOk]
  go_enter Tryz.func142, Tryz.ntmps142
  go_wp2_with fail
  refine (Hp1.out _ (by go_grown)).mono ?_
  rintro e w1 ⟨rfl, hb1⟩
  have hbx : Below w.heap.size w w1 := Below.trans (by go_grown) (hb1.mono (by simp))
  have hbk : w1.heap[w.heap.size]? = some (.cells #[.bool sl, .slice Al ml cl, .bool sr, .slice Ar mr cr, .bool br] 99 (0, 0)) := (hb1.block _ (by simp)).trans (heap_new rfl)
  have c2 : w1.cell? ⟨w.heap.size, 2, none⟩ = some (.bool sr) := cell_blk hbk 2
  have c3 : w1.cell? ⟨w.heap.size, 3, none⟩ = some (.slice Ar mr cr) := cell_blk hbk 3
  have cn := (cellOf hbx hb).trans hn
  clear hb1 hbk hn
  rcases h1 : patB n xl with _ | _
  · go_wp2_with fail
    go_ret
    exact ⟨ret_bool (by simp [h1]), hbx⟩
  · go_wp2_with fail
    refine (Hp2.out _ hbx).mono ?_
    rintro e w2 ⟨rfl, hb2⟩
    have hlt : w.heap.size < w1.heap.size := by
      rcases Nat.lt_or_ge w.heap.size w1.heap.size with h | h
      · exact h
      · simp [World.cell?, Array.getElem?_eq_none h] at c2
    have d2 := (cellOf hb2 hlt).trans c2
    have hby := hbx.trans (hb2.mono hbx.size)
    clear hb2 c2 c3 cn hbx
    rcases h2 : patB n xr with _ | _
    · go_wp2_with fail
      go_ret
      exact ⟨ret_bool (by simp [h1, h2]), hby⟩
    · go_wp2_with fail
      go_ret
      exact ⟨ret_bool (by simp [h1, h2]), hby⟩

/-- A predicate on rules by a function value. -/
def SaysR (P : Program) (g : Nat) (lb : Array Value) (p : RuleV → Bool) (w : World) : Prop :=
  ∀ (x : RuleV) (Al Ar : Option Addr) (ml cl mr cr : Nat) (W : World), Below w.heap.size w W → RuleM W W.heap.size x Al ml cl Ar mr cr → Calls P g (#[ruleV x Al ml cl Ar mr cr] ++ lb) W fun e W' => e = .returned (.bool (p x)) ∧ Below W.heap.size W W'

set_option maxHeartbeats 400000 in
theorem indexFunc_rule {g : Nat} {lb : Array Value} {p : RuleV → Bool} (A : Option Addr) (n c : Nat) (xs : List RuleV) (w : World)
    (eg : ∀ args w, (callFunc g args).run Tryz.prog w = .ok (.enter g args) w) (hx : Rls w w.heap.size A n xs) (hp : SaysR Tryz.prog g lb p w) (hn : n ≤ 1000000) :
    Calls Tryz.prog 190 #[.slice A n c, .func (.func g) #[] lb] w fun e w' => e = .returned (.int .i64 (firstB p xs)) ∧ Below w.heap.size w w' := by
  have hlen := hx.len
  have Hp := Lib.hid hp
  clear hp
  go_enter Tryz.func190, Tryz.ntmps190
  go_wp2
  go_loopw [8] (fun i wr => ∃ k : Nat, k ≤ n ∧ i = .int .i64 k ∧ (∀ (j : Nat) (h : j < k) (h2 : j < xs.length), p xs[j] = false) ∧ Below w.heap.size w wr) (fun i _ => n - (RowKit.intOf i).toNat)
  case atStart => exact ⟨0, Nat.zero_le _, rfl, fun j h => absurd h (by omega), Below.refl _ _⟩
  case round =>
    obtain ⟨k, hk, rfl, hno, hb⟩ := hrel
    rcases Nat.lt_or_ge k n with hlt | hge
    · obtain ⟨zb, zo, rfl, hzb, hzc⟩ := hx.at_ (by omega)
      obtain ⟨Al, ml, cl, Ar, mr, cr, c0, c1, c2, c3, c4, hm⟩ := hzc k (by omega)
      have d0 := (cellOf hb hzb).trans c0
      have d1 := (cellOf hb hzb).trans c1
      have d2 := (cellOf hb hzb).trans c2
      have d3 := (cellOf hb hzb).trans c3
      have d4 := (cellOf hb hzb).trans c4
      have hc := Hp.out xs[k] Al Ar ml cl mr cr wr hb ((hm.below hb).more hb.size)
      clear c0 c1 c2 c3 c4 hm hzc
      go_wp2
      refine hc.mono ?_
      rintro e w1 ⟨rfl, hb1⟩
      rcases hpk : p xs[k] with _ | _
      · have hno' : ∀ (j : Nat) (h : j < k + 1) (h2 : j < xs.length), p xs[j] = false := fun j h h2 => by
          rcases Nat.lt_or_ge j k with h3 | h3
          · exact hno j h3 h2
          · obtain rfl : j = k := by omega
            exact hpk
        have hb2 := hb.trans (hb1.mono hb.size)
        clear hno hb hb1 hc hpk d0 d1 d2 d3 d4
        go_wp2
        go_roundw
        case rel => exact ⟨k + 1, by omega, by go_num, hno', hb2⟩
        case measure => simp [RowKit.intOf]; omega
      · have hf : firstB p xs = k := firstB_hit (by omega) hpk (fun j h => hno j h (by omega))
        have Hf := Lib.hid hf
        clear hf hpk d0 d1 d2 d3 d4
        go_wp2
        go_ret
        exact ⟨ret_int Hf.out.symm, hb.trans (hb1.mono hb.size)⟩
    · have hf : firstB p xs = -1 := firstB_none (fun j h => hno j (by omega) h)
      have Hf := Lib.hid hf
      clear hf
      go_wp2
      go_ret
      exact ⟨ret_int Hf.out.symm, hb⟩

set_option maxHeartbeats 400000 in
theorem containsFunc_rule {g : Nat} {lb : Array Value} {p : RuleV → Bool} (A : Option Addr) (n c : Nat) (xs : List RuleV) (w : World)
    (eg : ∀ args w, (callFunc g args).run Tryz.prog w = .ok (.enter g args) w) (hx : Rls w w.heap.size A n xs) (hp : SaysR Tryz.prog g lb p w) (hn : n ≤ 1000000) :
    Calls Tryz.prog 144 #[.slice A n c, .func (.func g) #[] lb] w fun e w' => e = .returned (.bool (xs.any p)) ∧ Below w.heap.size w w' := by
  have hc := indexFunc_rule A n c xs w eg hx hp hn
  rw [← firstB_ge p xs]
  clear eg hx hp
  go_enter Tryz.func144, Tryz.ntmps144
  go_wp2_with (go_at_call 190; refine hc.mono ?_; rintro e w1 ⟨rfl, hb1⟩)
  go_ret
  exact ⟨rfl, hb1⟩

theorem says_ruleOk (n : Int) (b : Nat) (w : World) (hn : w.cell? ⟨b, 0, none⟩ = some (.int .i64 n)) (hb : b < w.heap.size) :
    SaysR Tryz.prog 142 #[.pointer (some ⟨b, 0, none⟩)] (fun x => !ruleOk n x) w :=
  fun x Al Ar ml cl mr cr W hW hm => areRight1 x Al Ar ml cl mr cr n b W hm ((cellOf hW hb).trans hn) (Nat.lt_of_lt_of_le hb hW.size)

set_option maxHeartbeats 400000 in
theorem rule_areRight (A : Option Addr) (m c : Nat) (xs : List RuleV) (n : Int) (w : World) (hx : Rls w w.heap.size A m xs) (hm : m ≤ 1000000) :
    Calls Tryz.prog 103 #[.int .i64 n, .slice A m c] w fun e w' => e = .returned (.bool (rulesB n xs)) ∧ Below w.heap.size w w' := by
  have Hl := Lib.hid hx.len
  have hc := fun W (hW : Below w.heap.size w W) b (hb : b < W.heap.size) (hn : W.cell? ⟨b, 0, none⟩ = some (.int .i64 n)) =>
    containsFunc_rule A m c xs W (enters_of Tryz.func142 (by kernel_rfl) rfl) ((hx.below hW).more hW.size) (says_ruleOk n b W hn hb) hm
  have Hc := Lib.hid hc
  clear hc
  go_enter Tryz.func103, Tryz.ntmps103
  go_wp2_with (go_at_call 144; refine (Hc.out _ (by go_grown) _ (by simp) (by simp)).mono ?_; rintro e w1 ⟨rfl, hb1⟩)
  all_goals go_ret
  · have hm' : xs.length ≤ 40 := by rw [Hl.out]; omega
    refine ⟨ret_bool ?_, Below.trans (by go_grown) (Below.mono hb1 (by simp))⟩
    simp [rulesB, *, List.all_eq_not_any_not]
  · refine ⟨ret_bool ?_, by go_grown⟩
    have : ¬ (xs.length ≤ 40) := by rw [Hl.out]; omega
    simp [rulesB, *]
  · refine ⟨ret_bool ?_, by go_grown⟩
    have : ¬ (n ≤ 32) := by omega
    simp [rulesB, *]
  · refine ⟨ret_bool ?_, by go_grown⟩
    have : ¬ (1 ≤ n) := by omega
    simp [rulesB, *]

theorem rule_Right (A : Option Addr) (m c : Nat) (xs : List RuleV) (n : Int) (w : World) (hx : Rls w w.heap.size A m xs) (hm : m ≤ 1000000) :
    Calls Tryz.prog 64 #[.slice A m c, .int .i64 n] w fun e w' => e = .returned (.bool (rulesB n xs)) ∧ Below w.heap.size w w' := by
  have hc := rule_areRight A m c xs n w hx hm
  clear hx
  go_enter Tryz.func64, Tryz.ntmps64
  go_wp2_with (go_at_call 103; refine hc.mono ?_; rintro e w1 ⟨rfl, hb1⟩)
  go_ret
  exact ⟨rfl, hb1⟩

theorem rls_one {w : World} {x : RuleV} {Al Ar : Option Addr} {ml cl mr cr : Nat} (hm : RuleM w w.heap.size x Al ml cl Ar mr cr) (g : Nat) (t : TypeId)
    (hg : w.heap[g]? = some (.cells #[.bool x.sl, .slice Al ml cl, .bool x.sr, .slice Ar mr cr, .bool x.br] t (0, 0))) : Rls w w.heap.size (some ⟨g, 0, none⟩) 1 [x] :=
  ⟨rfl, fun _ => ⟨g, 0, rfl, (Array.getElem?_eq_some_iff.1 hg).1, fun j hj => by
    obtain rfl : j = 0 := by simpa using hj
    exact ⟨Al, ml, cl, Ar, mr, cr, cell_blk hg 0, cell_blk hg 1, cell_blk hg 2, cell_blk hg 3, cell_blk hg 4, hm⟩⟩⟩

theorem rulesB_one (x : RuleV) : rulesB 32 [x] = ruleOk 32 x := by simp [rulesB]

set_option maxRecDepth 100000 in
set_option maxHeartbeats 1600000 in
theorem rule_Applies (x : RuleV) (Al Ar A : Option Addr) (ml cl mr cr n c : Nat) (zs : List Int) (a : Int) (w : World) (hm : RuleM w w.heap.size x Al ml cl Ar mr cr) (hz : Ints w w.heap.size A n zs) (hn : n ≤ 1000) (hnc : n ≤ c) :
    Calls Tryz.prog 186 #[ruleV x Al ml cl Ar mr cr, .slice A n c, .int .i64 a] w fun e w' => e = .returned (.bool (appB zs a x)) ∧ Below w.heap.size w w' := by
  have Hlen := Lib.hid hz.len
  have hr := fun W (hW : Below w.heap.size w W) g (hg : W.heap[g]? = some (.cells #[.bool x.sl, .slice Al ml cl, .bool x.sr, .slice Ar mr cr, .bool x.br] 99 (0, 0))) =>
    rule_areRight (some ⟨g, 0, none⟩) 1 1 [x] 32 W (rls_one ((hm.below hW).more hW.size) g _ hg) (by omega)
  have hbe := fun W (hW : Below w.heap.size w W) => pattern_Behind x.sl Al A ml cl n c x.xl zs a W ((hm.left.below hW).more hW.size) ((hz.below hW).more hW.size) hm.lb hn hnc
  have hah := fun W (hW : Below w.heap.size w W) => pattern_Ahead x.sr Ar A mr cr n c x.xr zs a W ((hm.right.below hW).more hW.size) ((hz.below hW).more hW.size) hm.rb hn
  rw [rulesB_one] at hr
  have Hr := Lib.hid hr
  have Hbe := Lib.hid hbe
  have Hah := Lib.hid hah
  clear hr hbe hah hm hz
  have happ : appB zs a x = (ruleOk 32 x && (decide (0 < a) && (decide (a < n) && (behindB x.sl x.xl zs a && aheadB x.sr x.xr zs a)))) := by
    unfold appB; rw [Hlen.out]
  have Happ := Lib.hid happ
  clear happ
  obtain ⟨sl, xl, sr, xr, br⟩ := x
  simp only at Hr Hbe Hah Happ
  simp only [ruleV]
  go_enter Tryz.func186, Tryz.ntmps186
  go_wp2_with fail
  refine (Hr.out _ (by go_grown) _ (heap_new (by simp))).mono ?_
  rintro e w1 ⟨rfl, hb1⟩
  have hbx : Below w.heap.size w w1 := Below.trans (by go_grown) (hb1.mono (by simp; omega))
  have hbk : w1.heap[w.heap.size]? = some (.cells #[.bool sl, .slice Al ml cl, .bool sr, .slice Ar mr cr, .bool br] 99 (0, 0)) := by
    rw [hb1.block _ (by simp; omega), heap_old (by simp)]; exact heap_new rfl
  have hlt := (Array.getElem?_eq_some_iff.1 hbk).1
  have c0 : w1.cell? ⟨w.heap.size, 0, none⟩ = some (.bool sl) := cell_blk hbk 0
  have c1 : w1.cell? ⟨w.heap.size, 1, none⟩ = some (.slice Al ml cl) := cell_blk hbk 1
  have c2 : w1.cell? ⟨w.heap.size, 2, none⟩ = some (.bool sr) := cell_blk hbk 2
  have c3 : w1.cell? ⟨w.heap.size, 3, none⟩ = some (.slice Ar mr cr) := cell_blk hbk 3
  clear hb1 hbk
  rcases h1 : ruleOk 32 { sl := sl, xl := xl, sr := sr, xr := xr, br := br } with _ | _
  · go_wp2_with fail
    go_ret
    exact ⟨ret_bool (by rw [Happ.out, h1]; rfl), hbx⟩
  · rcases (show a ≤ 0 ∨ (0 < a ∧ (n : Int) ≤ a) ∨ (0 < a ∧ a < n) by omega) with ha | ⟨ha, ha2⟩ | ⟨ha, ha2⟩
    · have hf : appB zs a { sl := sl, xl := xl, sr := sr, xr := xr, br := br } = false := by
        rw [Happ.out, decide_eq_false (show ¬ 0 < a by omega)]; simp
      have Hf := Lib.hid hf
      clear hf
      go_wp2_with fail
      go_ret
      exact ⟨ret_bool Hf.out.symm, hbx⟩
    · have hf : appB zs a { sl := sl, xl := xl, sr := sr, xr := xr, br := br } = false := by
        rw [Happ.out, decide_eq_false (show ¬ a < n by omega)]; simp
      have Hf := Lib.hid hf
      clear hf
      go_wp2_with fail
      go_ret
      exact ⟨ret_bool Hf.out.symm, hbx⟩
    · have hf : appB zs a { sl := sl, xl := xl, sr := sr, xr := xr, br := br } = (behindB sl xl zs a && aheadB sr xr zs a) := by
        rw [Happ.out, h1, decide_eq_true ha, decide_eq_true ha2]; simp
      have Hf := Lib.hid hf
      clear hf Happ
      go_wp2_with fail
      refine (Hbe.out _ hbx).mono ?_
      rintro e w2 ⟨rfl, hb2⟩
      have d2 := (cellOf hb2 hlt).trans c2
      have d3 := (cellOf hb2 hlt).trans c3
      have hby := hbx.trans (hb2.mono hbx.size)
      clear hb2 c0 c1 c2 c3 hbx
      rcases h2 : behindB sl xl zs a with _ | _
      · go_wp2_with fail
        go_ret
        exact ⟨ret_bool (by rw [Hf.out, h2]; rfl), hby⟩
      · go_wp2_with fail
        refine (Hah.out _ hby).mono ?_
        rintro e w3 ⟨rfl, hb3⟩
        go_wp2_with fail
        go_ret
        exact ⟨ret_bool (by rw [Hf.out, h2]; rfl), hby.trans (hb3.mono hby.size)⟩
end Go.Vir

/- Loops over a function whose round lays its variables in memory: the law of one range statement. No program. -/
namespace Go.Vir
open Go Go.RowKit

theorem range_law2 {P : Program} {g : Operand} {ps : Array Tmp} {assign body : Code} {Q : Exit → Act → World → Prop} {a : Act} {w : World}
    {gf : Nat} {lb : Array Value} {N : Nat} {encs : Nat → Array Value} {O : Nat → Prop} {B0 : Nat} {W0 : World}
    (hg : a.eval g = .func (.func gf) #[] lb) (eg : ∀ args w, (callFunc gf args).run P w = .ok (.enter gf args) w)
    (hit : Iter P gf lb N encs O B0 W0) (hb0 : Below W0.heap.size W0 w) (hO : ∀ k, O k → k < w.heap.size) (hB0 : B0 ≤ w.heap.size)
    (hps : ∀ i, (encs i).size = ps.size)
    (I : Nat → World → Prop) (Ix : Nat → Code → World → Prop)
    (Ib : Nat → Act → World → Prop) (hIb : ∀ i a A B, Ib i a A → Moves B0 O A B → Ib i a B) (hI : ∀ i A B, I i A → Moves B0 O A B → I i B) (hIx : ∀ i c A B, Ix i c A → Moves B0 O A B → Ix i c B) (h0 : I 0 w)
    (hassign : ∀ (l i : Nat) (W : World) (K : Act → World → Prop), i < N → I i W → w.heap.size ≤ W.heap.size → (∀ a' W', Below W.heap.size W W' → Ib i a' W' → K a' W') →
      assign.wpIn (Fence.wide.inRound l) 0 P (Exit.then K (fun _ _ _ => False)) { tmps := (ps.zip (encs i)).foldl (fun t (p, v) => t.setIfInBounds p v) a.tmps, defers := [] } W)
    (hbody : ∀ (l i : Nat) (a' : Act) (W : World), i < N → Ib i a' W → w.heap.size ≤ W.heap.size → body.wpIn (Fence.wide.inRound l) 0 P (roundEnd B0 O I Ix i W) a' W)
    (hdone : ∀ (D : Nat) (W : World), w.heap.size ≤ D → I N W → W.heap[D]? = some (.deferred (some [])) → Q .normal { a with defers := { target := .collected D, args := #[] } :: a.defers } W)
    (hstop : ∀ (D i : Nat) (c : Code) (W : World), w.heap.size ≤ D → i < N → Ix i c W → W.heap[D]? = some (.deferred (some [])) → c.wpIn Fence.wide 0 P Q { a with defers := { target := .collected D, args := #[] } :: a.defers } W) :
    (Code.rangeFunc g ps assign body).wpIn Fence.wide 0 P Q a w := by
  refine wpIn_rangeFunc ?_
  intro fn hfn
  obtain ⟨rec, hrec⟩ : ∃ rec : LoopState → Option Code → Loop, rec = fun st pe => { state := st, pending := pe, fn, tmps := a.tmps, params := ps, assign, body, defers := w.heap.size } := ⟨_, rfl⟩
  obtain ⟨W1, hW1⟩ : ∃ W1, (w.alloc (.deferred (some []))).alloc (.loop (rec .ready none)) = W1 := ⟨_, rfl⟩
  have hL1 : W1.heap[w.heap.size + 1]? = some (.loop (rec .ready none)) := by
    rw [← hW1]; have := World.alloc_heap_new (w.alloc (.deferred (some []))) (.loop (rec .ready none)); rwa [World.size_alloc] at this
  have hK1 : W1.heap[w.heap.size]? = some (.deferred (some [])) := by
    rw [← hW1]; exact (Below.heap_alloc _ _ _ (by simp)).trans (World.alloc_heap_new w _)
  have hsz : W1.heap.size = w.heap.size + 2 := by rw [← hW1]; simp
  have hbw : Below w.heap.size w W1 := by rw [← hW1]; exact ((Below.refl _ w).alloc (Nat.le_refl _) _).alloc (by simp) _
  have hI1 : I 0 W1 := hI _ _ _ h0 ((Apart.below hbw).moves hB0)
  have hb1 : Below W0.heap.size W0 W1 := hb0.trans (hbw.mono hb0.size)
  refine ⟨w.heap.size + 1, [{ target := .collected w.heap.size, args := #[] }], W1, { target := .fn (.func gf) lb, args := #[.func (.yield (w.heap.size + 1)) #[] #[]] }, W1, gf,
    #[.func (.yield (w.heap.size + 1)) #[] #[]] ++ lb, W1, ?_, ?_, ?_, ?_, fun _ => by simp [Fence.wide] at *, ?_⟩
  · rw [← hW1, hrec]; exact run_enterLoop_outer _ _ _ _ _
  · simp only [resolve, hg]
    simp [go_sem]
  · intro f' _; trivial
  · simp [invoke, go_sem, eg]
  · have hnO : ∀ k, w.heap.size ≤ k → ¬ O k := fun k hk ho => by have := hO k ho; omega
    refine (hit (w.heap.size + 1)
      (fun i W => I i W ∧ W.heap[w.heap.size + 1]? = some (.loop (rec .ready none)) ∧ W.heap[w.heap.size]? = some (.deferred (some [])))
      (fun i W => ∃ c, Ix i c W ∧ W.heap[w.heap.size + 1]? = some (.loop (rec .done (some c))) ∧ W.heap[w.heap.size]? = some (.deferred (some [])))
      W1 hb1 ?_ ?_ ?_ ⟨hI1, hL1, hK1⟩).mono ?_
    · rintro i A B ⟨h1, h2, h3⟩ hap
      have hs := (Array.getElem?_eq_some_iff.1 h2).1
      exact ⟨hI _ _ _ h1 (hap.moves (by omega)), (hap.block _ hs (hnO _ (by omega))).trans h2, (hap.block _ (by omega) (hnO _ (by omega))).trans h3⟩
    · rintro i A B ⟨c, h1, h2, h3⟩ hap
      have hs := (Array.getElem?_eq_some_iff.1 h2).1
      exact ⟨c, hIx _ _ _ _ h1 (hap.moves (by omega)), (hap.block _ hs (hnO _ (by omega))).trans h2, (hap.block _ (by omega) (hnO _ (by omega))).trans h3⟩
    · rintro i Wo hi ⟨hi0, hlo, hko⟩
      have hlto : w.heap.size + 1 < Wo.heap.size := (Array.getElem?_eq_some_iff.1 hlo).1
      have hy := run_yield (P := P) (args := encs i) hlo (by rw [hrec]; exact hps i)
      rw [hrec] at hy
      refine ⟨fn, _, assign, body, hy, roundIn_of_wpIn hfn (hassign _ i Wo _ hi hi0 (by omega) (fun a' W hbw hib => ?_))⟩
      have hl := (hbw.block _ hlto).trans hlo
      have hk := (hbw.block _ (show w.heap.size < Wo.heap.size by omega)).trans hko
      have hlt : w.heap.size + 1 < W.heap.size := (Array.getElem?_eq_some_iff.1 hl).1
      have hkw : Keeps B0 O Wo W := Keeps.below (fun k hk => by have := hO k hk; omega) (by omega) hbw
      refine ⟨_, run_beginRound hl (by rw [hrec]), ?_⟩
      have hl2 : (W.putObj (w.heap.size + 1) (.loop { rec .ready none with state := .busy })).heap[w.heap.size + 1]? = some (.loop { rec .ready none with state := .busy }) := World.putObj_heap_same hlt
      have hk2 : (W.putObj (w.heap.size + 1) (.loop { rec .ready none with state := .busy })).heap[w.heap.size]? = some (.deferred (some [])) := (World.putObj_heap_other (by omega)).trans hk
      refine wpIn_mono (hbody _ i a' _ hi (hIb _ _ _ _ hib (Moves.putObj (by omega) hl rfl)) (by simp; omega)) ?_
      have fin : ∀ (jump : Option Code) (W3 : World), Keeps B0 O (W.putObj (w.heap.size + 1) (.loop { rec .ready none with state := .busy })) W3 →
          (Instr.endRound (w.heap.size + 1) jump).run P W3 = .ok (.bool jump.isNone) (W3.putObj (w.heap.size + 1) (.loop (rec (if jump.isNone then .ready else .done) jump))) ∧
          W3.heap[w.heap.size + 1]? = some (.loop { rec .ready none with state := .busy }) ∧
          (W3.putObj (w.heap.size + 1) (.loop (rec (if jump.isNone then .ready else .done) jump))).heap[w.heap.size + 1]? = some (.loop (rec (if jump.isNone then .ready else .done) jump)) ∧
          (W3.putObj (w.heap.size + 1) (.loop (rec (if jump.isNone then .ready else .done) jump))).heap[w.heap.size]? = some (.deferred (some [])) := fun jump W3 hk3 => by
        have hl3 := hk3.other _ _ hl2 rfl
        have := run_endRound (P := P) jump hl3
        rw [hrec] at this ⊢
        exact ⟨this, by rw [hrec] at hl3; exact hl3, World.putObj_heap_same (Array.getElem?_eq_some_iff.1 hl3).1, (World.putObj_heap_other (by omega)).trans (hk3.other _ _ hk2 rfl)⟩
      rintro e a3 W3 hp
      cases e with
      | normal =>
        obtain ⟨hk3, hi3⟩ := hp
        obtain ⟨hr, hl3, hl4, hk4⟩ := fin none W3 hk3
        refine ⟨_, _, hr, .inl ⟨rfl, ⟨hI _ _ _ hi3 (Moves.putObj (by omega) hl3 rfl), hl4, hk4⟩, hkw.trans ?_⟩⟩
        have hs3 : w.heap.size + 1 < W3.heap.size := (Array.getElem?_eq_some_iff.1 hl3).1
        refine ⟨by have := hk3.size; simp at this ⊢; omega, fun k hk => ?_, fun k hk => ?_, fun k o ho hd => ?_⟩
        · rw [World.putObj_heap_other (by omega), hk3.low k hk, World.putObj_heap_other (by omega)]
        · have := hO k hk
          rw [World.putObj_heap_other (by omega), hk3.own k hk, World.putObj_heap_other (by omega)]
        · by_cases e : k = w.heap.size + 1
          · subst e; rw [hl] at ho; cases ho; exact hl4
          · rw [World.putObj_heap_other e]
            exact hk3.other k o (by rw [World.putObj_heap_other e]; exact ho) hd
      | ret =>
        obtain ⟨hk3, hi3⟩ := hp
        obtain ⟨hr, hl3, hl4, hk4⟩ := fin (some .ret) W3 hk3
        exact ⟨_, _, hr, .inr ⟨rfl, .ret, hIx _ _ _ _ hi3 (Moves.putObj (by omega) hl3 rfl), hl4, hk4⟩⟩
      | exit id =>
        obtain ⟨hk3, hi3⟩ := hp
        obtain ⟨hr, hl3, hl4, hk4⟩ := fin (some (.exit id)) W3 hk3
        exact ⟨_, _, hr, .inr ⟨rfl, .exit id, hIx _ _ _ _ hi3 (Moves.putObj (by omega) hl3 rfl), hl4, hk4⟩⟩
      | goto t =>
        obtain ⟨hk3, hi3⟩ := hp
        obtain ⟨hr, hl3, hl4, hk4⟩ := fin (some (.goto t)) W3 hk3
        exact ⟨_, _, hr, .inr ⟨rfl, .goto t, hIx _ _ _ _ hi3 (Moves.putObj (by omega) hl3 rfl), hl4, hk4⟩⟩
      | panic ch => exact hp.elim
      | outgrown => exact hp.elim
    · rintro e W2 ⟨⟨v, rfl⟩, (⟨hi, hl, hk⟩ | ⟨i, hiN, c, hi, hl, hk⟩)⟩
      · exact ⟨none, _, by have := run_endLoop (P := P) hl (by rw [hrec]; simp); rw [hrec] at this; exact this, hdone _ _ (Nat.le_refl _) (hI _ _ _ hi (Moves.putObj (by omega) hl rfl)) ((World.putObj_heap_other (by omega)).trans hk)⟩
      · exact ⟨some c, _, by have := run_endLoop (P := P) hl (by rw [hrec]; simp); rw [hrec] at this; exact this, hstop _ i c _ (Nat.le_refl _) hiN (hIx _ _ _ _ hi (Moves.putObj (by omega) hl rfl)) ((World.putObj_heap_other (by omega)).trans hk)⟩

end Go.Vir

/- The walks of rule: the rules that apply, what is said of a place. -/
namespace Go.Vir
open Go Go.RowKit Go.Proofs Go.Shelf
attribute [local go_sem] Oper.semAt_some

/-- The rules below a number that apply. -/
def idxL (zs : List Int) (a : Int) (rs : List RuleV) (k : Nat) : List Nat := (List.range k).filter fun j => appB zs a (rs.getD j default)
theorem idxL_succ (zs : List Int) (a : Int) (rs : List RuleV) (k : Nat) : idxL zs a rs (k + 1) = idxL zs a rs k ++ (if appB zs a (rs.getD k default) then [k] else []) := by
  unfold idxL
  rw [List.range_succ, List.filter_append, List.filter_cons, List.filter_nil]
theorem idxL_prefix (zs : List Int) (a : Int) (rs : List RuleV) {k m : Nat} (h : k ≤ m) : idxL zs a rs k <+: idxL zs a rs m := by
  induction m with
  | zero => obtain rfl : k = 0 := by omega
            exact List.prefix_refl _
  | succ m ih =>
    rcases Nat.eq_or_lt_of_le h with h1 | h1
    · rw [h1]; exact List.prefix_refl _
    · rw [idxL_succ]; exact (ih (by omega)).trans (List.prefix_append _ _)
theorem idxL_at (zs : List Int) (a : Int) (rs : List RuleV) {k m : Nat} (h : k < m) (hb : appB zs a (rs.getD k default) = true) : (idxL zs a rs k).length < (idxL zs a rs m).length ∧ (idxL zs a rs m).getD (idxL zs a rs k).length 0 = k := by
  obtain ⟨t, ht⟩ := idxL_prefix zs a rs (show k + 1 ≤ m by omega)
  rw [idxL_succ, hb, if_pos rfl] at ht
  rw [← ht]
  constructor
  · simp
  · simp [List.getD_eq_getElem?_getD]
/-- What is said goes by the first of them. -/
theorem say_idx (zs : List Int) (a : Int) : ∀ (rs : List RuleV) (d : List RuleV), sayB zs a rs d.length = match (idxL zs a (d ++ rs) (d ++ rs).length).drop (idxL zs a (d ++ rs) d.length).length with
    | [] => (true, -1)
    | j :: _ => (((d ++ rs).getD j default).br, (j : Int))
  | [], d => by simp [sayB]
  | x :: rs, d => by
    have hx : (d ++ x :: rs).getD d.length default = x := by simp [List.getD_eq_getElem?_getD]
    have hs := idxL_succ zs a (d ++ x :: rs) d.length
    rw [hx] at hs
    obtain ⟨t, ht⟩ := idxL_prefix zs a (d ++ x :: rs) (show d.length + 1 ≤ (d ++ x :: rs).length by simp)
    unfold sayB
    by_cases h : appB zs a x = true
    · rw [if_pos h]
      rw [h, if_pos rfl] at hs
      rw [hs, List.append_assoc] at ht
      rw [← ht, List.drop_left]
      simp
    · rw [if_neg h]
      have h' : appB zs a x = false := by simpa using h
      rw [h'] at hs
      simp only [Bool.false_eq_true, if_false, List.append_nil] at hs
      have ih := say_idx zs a rs (d ++ [x])
      simp only [List.append_assoc, List.cons_append, List.nil_append, List.length_append, List.length_cons, List.length_nil, Nat.zero_add] at ih
      rw [ih, hs]
      simp only [List.length_append, List.length_cons]

/-- A slice of rules, and their values. -/
structure RlsV (w : World) (B : Nat) (A : Option Addr) (n : Nat) (rs : List RuleV) (V : Nat → Value) : Prop where
  len : rs.length = n
  at_ : 0 < n → ∃ b o, A = some ⟨b, o, none⟩ ∧ b < B ∧ ∀ (j : Nat) (h : j < rs.length), ∃ Al ml cl Ar mr cr, V j = ruleV rs[j] Al ml cl Ar mr cr ∧ w.cell? ⟨b, o + j * 5, none⟩ = some (.bool rs[j].sl) ∧ w.cell? ⟨b, o + j * 5 + 1, none⟩ = some (.slice Al ml cl) ∧ w.cell? ⟨b, o + j * 5 + 2, none⟩ = some (.bool rs[j].sr) ∧
    w.cell? ⟨b, o + j * 5 + 3, none⟩ = some (.slice Ar mr cr) ∧ w.cell? ⟨b, o + j * 5 + 4, none⟩ = some (.bool rs[j].br) ∧ RuleM w B rs[j] Al ml cl Ar mr cr

theorem Rls.vals {w : World} {B n : Nat} {A : Option Addr} {rs : List RuleV} (h : Rls w B A n rs) : ∃ V, RlsV w B A n rs V := by
  rcases Nat.eq_zero_or_pos n with h0 | h0
  · exact ⟨fun _ => undef, h.len, fun h1 => by omega⟩
  · obtain ⟨b, o, e, hb, hc⟩ := h.at_ h0
    refine ⟨fun j => .agg #[(w.cell? ⟨b, o + j * 5, none⟩).getD undef, (w.cell? ⟨b, o + j * 5 + 1, none⟩).getD undef, (w.cell? ⟨b, o + j * 5 + 2, none⟩).getD undef, (w.cell? ⟨b, o + j * 5 + 3, none⟩).getD undef, (w.cell? ⟨b, o + j * 5 + 4, none⟩).getD undef],
      h.len, fun _ => ⟨b, o, e, hb, fun j hj => ?_⟩⟩
    obtain ⟨Al, ml, cl, Ar, mr, cr, c0, c1, c2, c3, c4, hm⟩ := hc j hj
    exact ⟨Al, ml, cl, Ar, mr, cr, by simp only [c0, c1, c2, c3, c4]; rfl, c0, c1, c2, c3, c4, hm⟩

section
variable {w w' : World} {B n : Nat} {A : Option Addr}
theorem Ints.low {zs : List Int} (h : Ints w B A n zs) (hl : ∀ k, k < B → w'.heap[k]? = w.heap[k]?) : Ints w' B A n zs :=
  ⟨h.len, fun hn => let ⟨b, o, e, hlt, hc⟩ := h.at_ hn; ⟨b, o, e, hlt, fun j hj => (World.cell?_of_block (hl b hlt)).trans (hc j hj)⟩⟩
theorem Prs.low {ps : List (Int × Int)} (h : Prs w B A n ps) (hl : ∀ k, k < B → w'.heap[k]? = w.heap[k]?) : Prs w' B A n ps :=
  ⟨h.len, fun hn => let ⟨b, o, e, hlt, hc⟩ := h.at_ hn; ⟨b, o, e, hlt, fun j hj => ⟨(World.cell?_of_block (hl b hlt)).trans (hc j hj).1, (World.cell?_of_block (hl b hlt)).trans (hc j hj).2⟩⟩⟩
theorem RuleM.low {x : RuleV} {Al Ar : Option Addr} {ml cl mr cr : Nat} (h : RuleM w B x Al ml cl Ar mr cr) (hl : ∀ k, k < B → w'.heap[k]? = w.heap[k]?) : RuleM w' B x Al ml cl Ar mr cr := ⟨h.left.low hl, h.right.low hl, h.lb, h.rb⟩
end

set_option maxHeartbeats 400000 in
theorem rules_make (A B : Option Addr) (m c n cz : Nat) (a : Int) (w : World) :
    Calls Tryz.prog 141 #[.agg #[.slice A m c], .slice B n cz, .int .i64 a] w fun e w' =>
      e = .returned (.func (.func 185) #[] #[.pointer (some ⟨w.heap.size, 0, none⟩), .pointer (some ⟨w.heap.size + 1, 0, none⟩), .pointer (some ⟨w.heap.size + 2, 0, none⟩)]) ∧
      ((w.alloc (.cells #[.slice A m c] 152)).alloc (.cells #[.slice B n cz] 88)).alloc (.cells #[.int .i64 a] 3) = w' := by
  go_enter Tryz.func141, Tryz.ntmps141
  go_wp2
  go_ret
  exact ⟨rfl, rfl⟩

set_option maxRecDepth 100000 in
set_option maxHeartbeats 1600000 in
theorem rules_iter (B0 b : Nat) (A B : Option Addr) (m c n cz : Nat) (rs : List RuleV) (zs : List Int) (a : Int) (V : Nat → Value) (W0 : World) (hb : B0 ≤ b) (hsz : b + 3 ≤ W0.heap.size) (hm : m ≤ 1000000) (hn : n ≤ 1000) (hnc : n ≤ cz)
    (c0 : W0.heap[b]? = some (.cells #[.slice A m c] 152 (0, 0))) (c1 : W0.heap[b + 1]? = some (.cells #[.slice B n cz] 88 (0, 0))) (c2 : W0.heap[b + 2]? = some (.cells #[.int .i64 a] 3 (0, 0)))
    (hV : RlsV W0 B0 A m rs V) (hz : Ints W0 B0 B n zs) :
    Iter Tryz.prog 185 #[.pointer (some ⟨b, 0, none⟩), .pointer (some ⟨b + 1, 0, none⟩), .pointer (some ⟨b + 2, 0, none⟩)] (idxL zs a rs m).length
      (fun i => #[.int .i64 (((idxL zs a rs m).getD i 0 : Nat) : Int), V ((idxL zs a rs m).getD i 0)]) (fun k => b ≤ k ∧ k < b + 3) B0 W0 := by
  intro l J Jx W hW hJ hJx hY h0
  have hlen := hV.len
  have HV := Lib.hid hV
  have Hz := Lib.hid hz
  have Hlen := Lib.hid hlen
  clear hV hz hlen
  refine callsIn_wide.2 ?_
  go_enter Tryz.func185, Tryz.ntmps185
  go_step3
  have g0 : W.cell? ⟨b, 0, none⟩ = some (.slice A m c) := by
    have := (hW.block _ (show b < W0.heap.size by omega)).trans c0
    exact cell_blk this 0
  go_wp2
  go_step3
  go_wp2
  go_loopw [10] (fun v wr => ∃ k : Nat, k ≤ m ∧ v = .int .i64 (k : Int) ∧ J (idxL zs a rs k).length wr ∧ W0.heap.size ≤ wr.heap.size ∧ (∀ q, q < B0 → wr.heap[q]? = W0.heap[q]?) ∧ wr.heap[b]? = some (.cells #[.slice A m c] 152 (0, 0)) ∧ wr.heap[b + 1]? = some (.cells #[.slice B n cz] 88 (0, 0)) ∧
      wr.heap[b + 2]? = some (.cells #[.int .i64 a] 3 (0, 0))) (fun v _ => m - (RowKit.intOf v).toNat)
  case atStart => exact ⟨0, by omega, rfl, by simpa [idxL] using h0, hW.size, fun q hq => hW.block _ (by omega), (hW.block _ (by omega)).trans c0, (hW.block _ (by omega)).trans c1, (hW.block _ (by omega)).trans c2⟩
  case round =>
    obtain ⟨k, hk, rfl, hJk, hszr, hlow, d0, d1, d2⟩ := hrel
    have Hlow := Lib.hid hlow
    clear hlow
    have e1 : wr.cell? ⟨b + 1, 0, none⟩ = some (.slice B n cz) := cell_blk d1 0
    have e2 : wr.cell? ⟨b + 2, 0, none⟩ = some (.int .i64 a) := cell_blk d2 0
    rcases Nat.lt_or_ge k m with hlt | hge
    · obtain ⟨rb, ro, rfl, hrb, hrc⟩ := HV.out.at_ (by omega)
      have hkr : k < rs.length := by rw [Hlen.out]; exact hlt
      obtain ⟨Al, ml, cl, Ar, mr, cr, hVk, x0, x1, x2, x3, x4, hM⟩ := hrc k hkr
      have y0 := (World.cell?_of_block (a := ⟨rb, ro + k * 5, none⟩) (Hlow.out rb hrb)).trans x0
      have y1 := (World.cell?_of_block (a := ⟨rb, ro + k * 5 + 1, none⟩) (Hlow.out rb hrb)).trans x1
      have y2 := (World.cell?_of_block (a := ⟨rb, ro + k * 5 + 2, none⟩) (Hlow.out rb hrb)).trans x2
      have y3 := (World.cell?_of_block (a := ⟨rb, ro + k * 5 + 3, none⟩) (Hlow.out rb hrb)).trans x3
      have y4 := (World.cell?_of_block (a := ⟨rb, ro + k * 5 + 4, none⟩) (Hlow.out rb hrb)).trans x4
      have hg : rs.getD k default = rs[k] := by simp [List.getD_eq_getElem?_getD, hkr]
      have hapC := fun W' (hW' : Below wr.heap.size wr W') => rule_Applies rs[k] Al Ar B ml cl mr cr n cz zs a W' (((hM.low Hlow.out).more (by omega)).below hW' |>.more hW'.size) ((((Hz.out.low Hlow.out).more (show B0 ≤ wr.heap.size by omega)).below hW').more hW'.size) hn hnc
      have HapC := Lib.hid hapC
      have HVk := Lib.hid hVk
      have Hg := Lib.hid hg
      clear hapC hVk hg hM x0 x1 x2 x3 x4 hrc
      generalize rs[k] = x at *
      obtain ⟨sl, xl, sr, xr, br⟩ := x
      simp only at y0 y1 y2 y3 y4
      have hs := idxL_succ zs a rs k
      rw [Hg.out] at hs
      rcases happ : appB zs a { sl := sl, xl := xl, sr := sr, xr := xr, br := br } with _ | _
      · rw [happ] at hs HapC
        simp only [Bool.false_eq_true, if_false, List.append_nil] at hs
        have Hs := Lib.hid hs
        clear hs
        have ha := HapC.out (wr.alloc (.cells #[.bool sl, .slice Al ml cl, .bool sr, .slice Ar mr cr, .bool br] 99)) (by go_grown)
        simp only [ruleV] at ha
        have Ha := Lib.hid ha
        clear ha HapC happ
        have l0 := (Array.getElem?_eq_some_iff.1 d0).1
        have l1 := (Array.getElem?_eq_some_iff.1 d1).1
        have l2 := (Array.getElem?_eq_some_iff.1 d2).1
        go_upto_region 3 with fail
        clear y0 y1 y2 y3 y4
        go_wp2_with fail
        refine Ha.out.mono ?_
        rintro e w1 ⟨rfl, hb1⟩
        have hbw : Below wr.heap.size wr w1 := Below.trans (by go_grown) (hb1.mono (by simp))
        have hJ1 := hJ _ _ _ hJk (Apart.below hbw)
        rw [← Hs.out] at hJ1
        have q0 := (hbw.block _ l0).trans d0
        have q1 := (hbw.block _ l1).trans d1
        have q2 := (hbw.block _ l2).trans d2
        have hsz1 := hbw.size
        have hlow1 : ∀ q, q < B0 → w1.heap[q]? = W0.heap[q]? := fun q hq => (hbw.block _ (by omega)).trans (Hlow.out q hq)
        have Hlow1 := Lib.hid hlow1
        clear hlow1 hb1 hbw e1 e2 d0 d1 d2
        go_wp2_with fail
        go_roundw
        case rel => exact ⟨k + 1, by omega, by go_num, hJ1, by omega, Hlow1.out, q0, q1, q2⟩
        case measure => simp [RowKit.intOf]; omega
      · obtain ⟨hl1, hl2⟩ := idxL_at zs a rs hlt (by rw [Hg.out]; exact happ)
        rw [happ] at hs HapC
        rw [if_pos rfl] at hs
        have Hs := Lib.hid hs
        have ha := HapC.out (wr.alloc (.cells #[.bool sl, .slice Al ml cl, .bool sr, .slice Ar mr cr, .bool br] 99)) (by go_grown)
        simp only [ruleV] at ha
        have Ha := Lib.hid ha
        have Hl1 := Lib.hid hl1
        have Hl2 := Lib.hid hl2
        clear hs ha HapC happ hl1 hl2
        have l0 := (Array.getElem?_eq_some_iff.1 d0).1
        have l1 := (Array.getElem?_eq_some_iff.1 d1).1
        have l2 := (Array.getElem?_eq_some_iff.1 d2).1
        go_upto_region 3 with fail
        clear y0 y1 y2 y3 y4
        refine (wpIn_wide (n := 0)).1 ?_
        gi_wp2_with fail
        refine ⟨trivial, rfl, callsIn_wide.2 (Ha.out.mono ?_)⟩
        rintro e w1 ⟨rfl, hb1⟩
        have hbw : Below wr.heap.size wr w1 := Below.trans (by go_grown) (hb1.mono (by simp))
        have hbk : w1.heap[wr.heap.size]? = some (.cells #[.bool sl, .slice Al ml cl, .bool sr, .slice Ar mr cr, .bool br] 99 (0, 0)) := (hb1.block _ (by simp)).trans (heap_new rfl)
        have y0 := cell_blk hbk 0
        have y1 := cell_blk hbk 1
        have y2 := cell_blk hbk 2
        have y3 := cell_blk hbk 3
        have y4 := cell_blk hbk 4
        simp only [List.getElem?_toArray, List.getElem?_cons_zero, List.getElem?_cons_succ] at y0 y1 y2 y3 y4
        have hJ1 := hJ _ _ _ hJk (Apart.below hbw)
        have hy := hY _ w1 Hl1.out hJ1
        rw [Hl2.out, HVk.out] at hy
        simp only [ruleV] at hy
        obtain ⟨fn, tmps, assign, body, hy, hR⟩ := hy
        have q0 := (hbw.block _ l0).trans d0
        have q1 := (hbw.block _ l1).trans d1
        have q2 := (hbw.block _ l2).trans d2
        have hsz1 := hbw.size
        have hlow1 : ∀ q, q < B0 → w1.heap[q]? = W0.heap[q]? := fun q hq => (hbw.block _ (by omega)).trans (Hlow.out q hq)
        have Hlow1 := Lib.hid hlow1
        clear hlow1 hb1 hbw e1 e2 d0 d1 d2 hJ1 hbk
        gi_wp2
        refine ⟨rfl, hR.mono ?_⟩
        rintro e W' (⟨rfl, hJ', hk'⟩ | ⟨rfl, hJx'⟩)
        · have r0 := (hk'.own _ ⟨Nat.le_refl _, by omega⟩).trans q0
          have r1 := (hk'.own (b + 1) ⟨by omega, by omega⟩).trans q1
          have r2 := (hk'.own (b + 2) ⟨by omega, by omega⟩).trans q2
          have hsz2 := hk'.size
          have hlow2 : ∀ q, q < B0 → W'.heap[q]? = W0.heap[q]? := fun q hq => (hk'.low q hq).trans (Hlow1.out q hq)
          have Hlow2 := Lib.hid hlow2
          clear hlow2 hk' hy y0 y1 y2 y3 y4 q0 q1 q2
          gi_wp2
          go_wp2
          go_roundw
          case rel => exact ⟨k + 1, by omega, by go_num, by rw [Hs.out, List.length_append]; exact hJ', by omega, Hlow2.out, r0, r1, r2⟩
          case measure => simp [RowKit.intOf]; omega
        · clear hy y0 y1 y2 y3 y4 q0 q1 q2
          gi_wp2
          go_wp2
          simp only [Exit.noGoto]
          go_end0
          exact ⟨⟨_, rfl⟩, .inr ⟨_, Hl1.out, hJx'⟩⟩
    · have hkm : k = m := by omega
      subst hkm
      go_wp2
      simp only [Exit.noGoto]
      go_end0
      exact ⟨⟨_, rfl⟩, .inl hJk⟩
end Go.Vir
