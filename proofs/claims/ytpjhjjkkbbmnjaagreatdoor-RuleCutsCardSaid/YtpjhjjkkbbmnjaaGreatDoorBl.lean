/- Joined texts: RfC, R11, R1B. -/
import Derived.Test.YtpjhjjkkbbmnjaaGreatDoorBk
import Derived.Test.YtpjhjjkkbbmnjaaGreatDoorBf
import Derived.Deep.RegionHeld3
/- The reference's ends, Fits, Behind, Ahead: the walks. -/
namespace Go.Vir
open Go Go.RowKit Go.Proofs Go.Shelf
attribute [local go_sem] Oper.semAt_some

set_option maxRecDepth 100000 in
set_option maxHeartbeats 1000000 in
theorem ref_ends (st : Bool) (Ai B : Option Addr) (m cm n c : Nat) (xs : List (Int × Int)) (zs : List Int) (a : Nat) (w : World) (hx : Prs w w.heap.size Ai m xs) (hcm : m ≤ cm) (hz : Ints w w.heap.size B n zs) (hm : m ≤ 1000) (hn : n ≤ 1000) (ha : a ≤ n)
    (hr : ∀ x ∈ xs, 0 ≤ x.2 ∧ x.2 ≤ 2) :
    Calls Tryz.prog 70 #[.agg #[.bool st, .slice Ai m cm], .slice B n c, .int .i64 (a : Int)] w fun e w' => RchEnd n (reachL zs xs fun i => i == a) e w' ∧ Below w.heap.size w w' := by
  obtain ⟨i0, hi0, hz0, hz1, hz2⟩ := info_parts bool_info
  have hcall := fun W (hW : Below w.heap.size w W) g (hg : g < W.heap.size) (hF : ∀ j, j ≤ n → W.cell? ⟨g, 0 + j, none⟩ = some (.bool (j == a))) =>
    ref_reach zs xs Ai B m cm n c g 0 (n + 1) (fun i => i == a) W ((hx.below hW).more hW.size) hcm ((hz.below hW).more hW.size) hm hn hr hg hF
  have Hcall := Lib.hid hcall
  clear hcall hx hz hr
  go_enter Tryz.func70, Tryz.ntmps70
  go_wp2_with (at_make; refine wpList_make_full _ rfl (.tmp 10) (.tmp 10) 92 rfl w.heap.size 4 i0 (.bool false) 1 Tryz.underlying92 hi0 hz0 hz1 .i64 .i64 ((n : Int) + 1) ((n : Int) + 1) (n + 1) rfl rfl (by omega) (by omega) (by rw [hz2]; omega) (by simp only [maxLen]; omega) (by simp) ?_; intro w1 hown1 hgrow1; have d1 := made_bls hown1; simp only [World.size_alloc] at d1; have f1 := frozen_blk d1 a; have c1 := cell_blk d1 a; rw [blsA_get (by omega)] at c1; have b0 : w1.heap[w.heap.size]? = some (.cells #[.bool st, .slice Ai m cm] 24 (0, 0)) := (hgrow1.block _ (by simp) (by simp)).trans (heap_new rfl); have b1 := cell_blk b0 1; simp only [List.getElem?_toArray, List.getElem?_cons_zero, List.getElem?_cons_succ] at b1)
  have hb1 : Below w.heap.size w w1 := ((Below.refl _ w).alloc (Nat.le_refl _) _).grown hgrow1 (by simp) (fun g hg => by cases hg)
  have hb2 : Below w.heap.size w (w1.setCell ⟨w.heap.size + 1, a, none⟩ (.bool true)) := hb1.setCell (p := ⟨w.heap.size + 1, a, none⟩) (by simp) _
  have hlt : w.heap.size + 1 < (w1.setCell ⟨w.heap.size + 1, a, none⟩ (.bool true)).heap.size := by
    have := (Array.getElem?_eq_some_iff.1 d1).1
    simpa [World.setCell] using this
  have hF : ∀ j, j ≤ n → (w1.setCell ⟨w.heap.size + 1, a, none⟩ (.bool true)).cell? ⟨w.heap.size + 1, 0 + j, none⟩ = some (.bool (j == a)) := fun j hj => by
    have := cell_blk (setCell_blkB (j := a) d1 true) j
    rw [blsA_get (by omega)] at this
    rw [Nat.zero_add, this]
    by_cases e : j = a <;> simp [e]
  have hc := Hcall.out _ hb2 _ hlt hF
  have Hc := Lib.hid hc
  clear hc hF d1 f1 c1 b0 b1 hown1 hgrow1 hb1
  refine Hc.out.mono ?_
  rintro e w3 ⟨⟨gb, go, gc, rfl, hg, hgc⟩, hb3⟩
  have Hgc := Lib.hid hgc
  clear hgc
  go_wp2_with fail
  go_ret
  exact ⟨⟨gb, go, gc, rfl, hg, Hgc.out⟩, hb2.trans (hb3.mono hb2.size)⟩

set_option maxHeartbeats 1000000 in
theorem ref_Fits (st : Bool) (Ai A : Option Addr) (m ci n c : Nat) (xs : List (Int × Int)) (zs : List Int) (w : World) (hx : Prs w w.heap.size Ai m xs) (hci : m ≤ ci) (hz : Ints w w.heap.size A n zs) (hm : m ≤ 1000) (hn : n ≤ 1000) :
    Calls Tryz.prog 26 #[.agg #[.bool st, .slice Ai m ci], .slice A n c] w fun e w' => e = .returned (.bool (fitsB xs zs)) ∧ Below w.heap.size w w' := by
  have hlen := hz.len
  have hright := fun W (hW : Below w.heap.size w W) => ref_Right9 st Ai m ci xs 32 W ((hx.below hW).more hW.size) (by omega)
  have Hright := Lib.hid hright
  have Hlen := Lib.hid hlen
  clear hright hlen
  rcases hp : patB 32 xs with _ | _
  · have hf : fitsB xs zs = false := by simp [fitsB, hp]
    rw [hf]
    clear hf
    go_enter Tryz.func26, Tryz.ntmps26
    go_wp2_with fail
    refine (Hright.out _ (by go_grown)).mono ?_
    rintro e w1 ⟨rfl, hb1⟩
    rw [hp]
    have hb1' : Below w.heap.size w w1 := Below.trans (by go_grown) (hb1.mono (by simp))
    clear hb1
    go_wp2_with fail
    go_ret
    exact ⟨rfl, hb1'⟩
  · have hends := fun W (hW : Below w.heap.size w W) => ref_ends st Ai A m ci n c xs zs 0 W ((hx.below hW).more hW.size) hci ((hz.below hW).more hW.size) hm hn (Nat.zero_le _) (patB_items hp).2
    have hel : reachL zs xs (fun i => i == 0) n = fitsB xs zs := by
      rw [reach_one zs xs (patB_items hp).2 0 n (by rw [Hlen.out]; exact Nat.le_refl _), ← Hlen.out, seg_all_of, fitsB, hp]; simp
    have Hends := Lib.hid hends
    have Hel := Lib.hid hel
    clear hends hel
    go_enter Tryz.func26, Tryz.ntmps26
    go_wp2_with fail
    refine (Hright.out _ (by go_grown)).mono ?_
    rintro e w1 ⟨rfl, hb1⟩
    rw [hp]
    have hb1' : Below w.heap.size w w1 := Below.trans (by go_grown) (hb1.mono (by simp))
    have k0 : w1.cell? ⟨w.heap.size, 0, none⟩ = some (.bool st) := by rw [cellOf hb1 (by simp)]; simp
    have k1 : w1.cell? ⟨w.heap.size, 1, none⟩ = some (.slice Ai m ci) := by rw [cellOf hb1 (by simp)]; simp
    clear hb1
    go_wp2_with fail
    refine (Hends.out _ hb1').mono ?_
    rintro e w2 ⟨⟨gb, go, gc, rfl, hg, hgc⟩, hb2⟩
    have hgn := hgc n (Nat.le_refl _)
    rw [Hel.out] at hgn
    have hb3 := hb1'.trans (hb2.mono hb1'.size)
    clear hgc hb2 hb1' k0 k1
    go_wp2_with fail
    go_ret
    exact ⟨rfl, hb3⟩

theorem ahead_ref {st : Bool} {xs : List (Int × Int)} {zs : List Int} {k : Nat} (hp : patB 32 xs = true) (hk : k ≤ zs.length) (hs : (st && decide (0 < k)) = false) :
    aheadB st xs zs (k : Int) = (List.range (zs.length + 1)).any fun j => decide (k ≤ j) && reachL zs xs (fun i => i == k) j := by
  have h1 : (st && decide ((0 : Int) < k)) = false := by
    rw [← hs]; congr 1; rw [decide_eq_decide]; omega
  have h2 : (k : Int) ≤ (zs.length : Int) := by omega
  simp only [aheadB, hp, h1, Int.toNat_natCast]
  simp only [h2, Int.natCast_nonneg, decide_true, Bool.true_and, Bool.not_false]
  rw [Bool.eq_iff_iff]
  simp only [List.any_eq_true, List.mem_range, Bool.and_eq_true, decide_eq_true_eq]
  constructor
  · rintro ⟨j, hj, a, b⟩; exact ⟨j, hj, a, by rw [reach_one zs xs (patB_items hp).2 k j (by omega)]; simp [a, b]⟩
  · rintro ⟨j, hj, a, b⟩
    rw [reach_one zs xs (patB_items hp).2 k j (by omega)] at b
    simp [a] at b
    exact ⟨j, hj, a, b⟩

set_option maxRecDepth 100000 in
set_option maxHeartbeats 2000000 in
theorem ref_Ahead (st : Bool) (Ai A : Option Addr) (m ci n c : Nat) (xs : List (Int × Int)) (zs : List Int) (a : Int) (w : World) (hx : Prs w w.heap.size Ai m xs) (hci : m ≤ ci) (hz : Ints w w.heap.size A n zs) (hm : m ≤ 1000) (hn : n ≤ 1000) :
    Calls Tryz.prog 30 #[.agg #[.bool st, .slice Ai m ci], .slice A n c, .int .i64 a] w fun e w' => e = .returned (.bool (aheadB st xs zs a)) ∧ Below w.heap.size w w' := by
  have hlen := hz.len
  have hright := fun W (hW : Below w.heap.size w W) => ref_Right9 st Ai m ci xs 32 W ((hx.below hW).more hW.size) (by omega)
  have Hright := Lib.hid hright
  have Hlen := Lib.hid hlen
  clear hright hlen
  rcases hp : patB 32 xs with _ | _
  · have hf : aheadB st xs zs a = false := by simp [aheadB, hp]
    rw [hf]
    clear hf
    go_enter Tryz.func30, Tryz.ntmps30
    go_wp2_with fail
    refine (Hright.out _ (by go_grown)).mono ?_
    rintro e w1 ⟨rfl, hb1⟩
    rw [hp]
    have hb1' : Below w.heap.size w w1 := Below.trans (by go_grown) (hb1.mono (by simp))
    clear hb1
    go_wp2_with fail
    go_ret
    exact ⟨rfl, hb1'⟩
  · by_cases hgood : 0 ≤ a ∧ a ≤ n
    · obtain ⟨k, rfl⟩ := Int.eq_ofNat_of_zero_le hgood.1
      have hkn : k ≤ n := by omega
      clear hgood
      rcases hs : (st && decide (0 < k)) with _ | _
      · have hends := fun W (hW : Below w.heap.size w W) => ref_ends st Ai A m ci n c xs zs k W ((hx.below hW).more hW.size) hci ((hz.below hW).more hW.size) hm hn hkn (patB_items hp).2
        have hel := ahead_ref (zs := zs) hp (by rw [Hlen.out]; exact hkn) hs
        rw [Hlen.out] at hel
        have Hends := Lib.hid hends
        have Hel := Lib.hid hel
        clear hends hel
        have hcase : st = false ∨ (st = true ∧ k = 0) := by
          rcases st with _ | _
          · exact .inl rfl
          · right; simp at hs; exact ⟨rfl, hs⟩
        clear hs
        rcases hcase with rfl | ⟨rfl, rfl⟩
        · generalize aheadB false xs zs (k : Int) = V at Hel ⊢
          generalize reachL zs xs (fun i => i == k) = R at Hends Hel
          go_enter Tryz.func30, Tryz.ntmps30
          go_wp2_with fail
          refine (Hright.out _ (by go_grown)).mono ?_
          rintro e w1 ⟨rfl, hb1⟩
          rw [hp]
          have hb1' : Below w.heap.size w w1 := Below.trans (by go_grown) (hb1.mono (by simp))
          have k0 := (cellOf (o := 0) hb1 (show w.heap.size < _ by simp)).trans (cell_blk (heap_new rfl) 0)
          have k1 := (cellOf (o := 1) hb1 (show w.heap.size < _ by simp)).trans (cell_blk (heap_new rfl) 1)
          simp only [List.getElem?_toArray, List.getElem?_cons_zero, List.getElem?_cons_succ] at k0 k1
          clear hb1
          go_wp2_with fail
          refine (Hends.out _ hb1').mono ?_
          rintro e w2 ⟨⟨gb, go, gc, rfl, hg, hgc⟩, hb2⟩
          have hb3 := hb1'.trans (hb2.mono hb1'.size)
          have Hgc := Lib.hid hgc
          clear hgc hb2 hb1' k0 k1
          go_wp2_with fail
          simp only [decide_eq_false (show ¬ ((k : Int) < 0) by omega)]
          clear Hends Hright
          go_loop [8] (fun v => ∃ j : Nat, j ≤ n + 1 ∧ v = .int .i64 (j : Int) ∧ ((List.range j).any fun i => decide (k ≤ i) && R i) = false ∧ k ≤ j) (fun v => n + 1 - (RowKit.intOf v).toNat)
          case atStart =>
            refine ⟨k, by omega, rfl, ?_, Nat.le_refl _⟩
            rw [List.any_eq_false]
            intro i hi
            have := List.mem_range.1 hi
            simp; omega
          case round =>
            obtain ⟨j, hj, rfl, hno, hkj⟩ := hrel
            have Hno := Lib.hid hno
            clear hno
            rcases Nat.lt_or_ge n j with hge | hle
            · have hjn : j = n + 1 := by omega
              subst hjn
              go_wp2_with fail
              go_ret
              exact ⟨ret_bool (Hno.out.symm.trans Hel.out.symm), hb3⟩
            · have hgj := Hgc.out j hle
              have hst : ((List.range (j + 1)).any fun i => decide (k ≤ i) && R i) = R j := by
                rw [List.range_succ, List.any_append, Hno.out]; simp [hkj]
              have Hst := Lib.hid hst
              clear hst
              rcases hR : R j with _ | _
              · rw [hR] at hgj Hst
                clear hR
                go_wp2_with fail
                go_round
                case rel => exact ⟨j + 1, by omega, by go_num, Hst.out, by omega⟩
                case measure => simp [RowKit.intOf]; omega
              · have hall : ((List.range (n + 1)).any fun i => decide (k ≤ i) && R i) = true := by
                  rw [List.any_eq_true]; exact ⟨j, List.mem_range.2 (by omega), by simp [hR, hkj]⟩
                have Hall := Lib.hid hall
                rw [hR] at hgj
                clear hR hall
                go_wp2_with fail
                go_ret
                exact ⟨ret_bool (Hall.out.symm.trans Hel.out.symm), hb3⟩
        · generalize aheadB true xs zs ((0 : Nat) : Int) = V at Hel ⊢
          generalize reachL zs xs (fun i => i == 0) = R at Hends Hel
          go_enter Tryz.func30, Tryz.ntmps30
          go_wp2_with fail
          refine (Hright.out _ (by go_grown)).mono ?_
          rintro e w1 ⟨rfl, hb1⟩
          rw [hp]
          have hb1' : Below w.heap.size w w1 := Below.trans (by go_grown) (hb1.mono (by simp))
          have k0 := (cellOf (o := 0) hb1 (show w.heap.size < _ by simp)).trans (cell_blk (heap_new rfl) 0)
          have k1 := (cellOf (o := 1) hb1 (show w.heap.size < _ by simp)).trans (cell_blk (heap_new rfl) 1)
          simp only [List.getElem?_toArray, List.getElem?_cons_zero, List.getElem?_cons_succ] at k0 k1
          clear hb1
          go_wp2_with fail
          refine (Hends.out _ hb1').mono ?_
          rintro e w2 ⟨⟨gb, go, gc, rfl, hg, hgc⟩, hb2⟩
          have hb3 := hb1'.trans (hb2.mono hb1'.size)
          have Hgc := Lib.hid hgc
          clear hgc hb2 hb1' k0 k1
          go_wp2_with fail
          simp only [decide_eq_false (show ¬ ((n : Int) < 0) by omega)]
          clear Hends Hright
          go_loop [8] (fun v => ∃ j : Nat, j ≤ n + 1 ∧ v = .int .i64 (j : Int) ∧ ((List.range j).any fun i => decide (0 ≤ i) && R i) = false ∧ 0 ≤ j) (fun v => n + 1 - (RowKit.intOf v).toNat)
          case atStart =>
            refine ⟨0, by omega, rfl, ?_, Nat.le_refl _⟩
            rw [List.any_eq_false]
            intro i hi
            have := List.mem_range.1 hi
            simp; omega
          case round =>
            obtain ⟨j, hj, rfl, hno, hkj⟩ := hrel
            have Hno := Lib.hid hno
            clear hno
            rcases Nat.lt_or_ge n j with hge | hle
            · have hjn : j = n + 1 := by omega
              subst hjn
              go_wp2_with fail
              go_ret
              exact ⟨ret_bool (Hno.out.symm.trans Hel.out.symm), hb3⟩
            · have hgj := Hgc.out j hle
              have hst : ((List.range (j + 1)).any fun i => decide (0 ≤ i) && R i) = R j := by
                rw [List.range_succ, List.any_append, Hno.out]; simp
              have Hst := Lib.hid hst
              clear hst
              rcases hR : R j with _ | _
              · rw [hR] at hgj Hst
                clear hR
                go_wp2_with fail
                go_round
                case rel => exact ⟨j + 1, by omega, by go_num, Hst.out, by omega⟩
                case measure => simp [RowKit.intOf]; omega
              · have hall : ((List.range (n + 1)).any fun i => decide (0 ≤ i) && R i) = true := by
                  rw [List.any_eq_true]; exact ⟨j, List.mem_range.2 (by omega), by simp [hR, hkj]⟩
                have Hall := Lib.hid hall
                rw [hR] at hgj
                clear hR hall
                go_wp2_with fail
                go_ret
                exact ⟨ret_bool (Hall.out.symm.trans Hel.out.symm), hb3⟩
      · have hs2 : st = true ∧ 0 < k := by simpa using hs
        obtain ⟨rfl, hk0⟩ := hs2
        have hf : aheadB true xs zs k = false := by simp [aheadB, hk0]
        rw [hf]
        clear hf hs
        go_enter Tryz.func30, Tryz.ntmps30
        go_wp2_with fail
        refine (Hright.out _ (by go_grown)).mono ?_
        rintro e w1 ⟨rfl, hb1⟩
        rw [hp]
        have hb1' : Below w.heap.size w w1 := Below.trans (by go_grown) (hb1.mono (by simp))
        have k0 : w1.cell? ⟨w.heap.size, 0, none⟩ = some (.bool true) := by rw [cellOf hb1 (by simp)]; simp
        clear hb1
        go_wp2_with fail
        go_ret
        exact ⟨rfl, hb1'⟩
    · have hf : aheadB st xs zs a = false := by
        have h1 : (decide (0 ≤ a) && decide (a ≤ zs.length)) = false := by
          rw [Hlen.out]
          rw [← Bool.not_eq_true, Bool.and_eq_true, decide_eq_true_eq, decide_eq_true_eq]; exact hgood
        rw [aheadB, ← Bool.and_assoc (decide (0 ≤ a)), h1]; simp
      rw [hf]
      clear hf
      have hg : a < 0 ∨ 0 ≤ a ∧ (n : Int) < a := by omega
      clear hgood
      rcases hg with hg | ⟨hg0, hg⟩
      all_goals
        go_enter Tryz.func30, Tryz.ntmps30
        go_wp2_with fail
        refine (Hright.out _ (by go_grown)).mono ?_
        rintro e w1 ⟨rfl, hb1⟩
        rw [hp]
        have hb1' : Below w.heap.size w w1 := Below.trans (by go_grown) (hb1.mono (by simp))
        clear hb1
        go_wp2_with fail
        go_ret
        exact ⟨rfl, hb1'⟩

theorem behind_ref {st : Bool} {xs : List (Int × Int)} {zs : List Int} {k : Nat} (hp : patB 32 xs = true) (hk : k ≤ zs.length) :
    behindB st xs zs (k : Int) = (List.range (if st then 1 else k + 1)).any fun i => reachL (zs.take k) xs (fun j => j == i) k := by
  have h2 : (k : Int) ≤ (zs.length : Int) := by omega
  simp only [behindB, hp, Int.toNat_natCast, h2, Int.natCast_nonneg, decide_true, Bool.true_and]
  rw [Bool.eq_iff_iff]
  simp only [List.any_eq_true, List.mem_range]
  have key : ∀ i, i < (if st then 1 else k + 1) → reachL (zs.take k) xs (fun j => j == i) k = mtB xs (seg zs i k) := fun i hi => by
    have hik : i ≤ k := by
      cases st
      · simp at hi; omega
      · simp at hi; omega
    rw [reach_one _ xs (patB_items hp).2 i k (by rw [List.length_take]; omega), seg_of_take, decide_eq_true hik, Bool.true_and]
  constructor
  · rintro ⟨i, hi, a⟩; exact ⟨i, hi, by rw [key i hi]; exact a⟩
  · rintro ⟨i, hi, a⟩; exact ⟨i, hi, by rw [← key i hi]; exact a⟩

set_option maxRecDepth 100000 in
set_option maxHeartbeats 4000000 in
theorem ref_Behind (st : Bool) (Ai A : Option Addr) (m ci n c : Nat) (xs : List (Int × Int)) (zs : List Int) (a : Int) (w : World) (hx : Prs w w.heap.size Ai m xs) (hci : m ≤ ci) (hz : Ints w w.heap.size A n zs) (hm : m ≤ 1000) (hn : n ≤ 1000) (hc : n ≤ c) :
    Calls Tryz.prog 28 #[.agg #[.bool st, .slice Ai m ci], .slice A n c, .int .i64 a] w fun e w' => e = .returned (.bool (behindB st xs zs a)) ∧ Below w.heap.size w w' := by
  have hlen := hz.len
  have hright := fun W (hW : Below w.heap.size w W) => ref_Right9 st Ai m ci xs 32 W ((hx.below hW).more hW.size) (by omega)
  have Hright := Lib.hid hright
  have Hlen := Lib.hid hlen
  clear hright hlen
  rcases hp : patB 32 xs with _ | _
  · have hf : behindB st xs zs a = false := by simp [behindB, hp]
    rw [hf]
    clear hf
    go_enter Tryz.func28, Tryz.ntmps28
    go_wp2_with fail
    refine (Hright.out _ (by go_grown)).mono ?_
    rintro e w1 ⟨rfl, hb1⟩
    rw [hp]
    have hb1' : Below w.heap.size w w1 := Below.trans (by go_grown) (hb1.mono (by simp))
    clear hb1
    go_wp2_with fail
    go_ret
    exact ⟨rfl, hb1'⟩
  · by_cases hgood : 0 ≤ a ∧ a ≤ n
    · obtain ⟨k, rfl⟩ := Int.eq_ofNat_of_zero_le hgood.1
      have hkn : k ≤ n := by omega
      clear hgood
      have hends := fun i (hi : i ≤ k) W (hW : Below w.heap.size w W) => ref_ends st Ai A m ci k c xs (zs.take k) i W ((hx.below hW).more hW.size) hci (((hz.below hW).more hW.size).take k hkn) hm (by omega) hi (patB_items hp).2
      have hel := behind_ref (st := st) (zs := zs) hp (by rw [Hlen.out]; exact hkn)
      generalize behindB st xs zs (k : Int) = V at hel ⊢
      have Hends := Lib.hid hends
      have Hel := Lib.hid hel
      have hkc : k ≤ c := by omega
      have s2 : (k : Int) ≤ (n : Int) := by omega
      have s3 : (k : Int) ≤ (c : Int) := by omega
      clear hends hel hx hz
      go_enter Tryz.func28, Tryz.ntmps28
      go_wp2_with fail
      refine (Hright.out _ (by go_grown)).mono ?_
      rintro e w1 ⟨rfl, hb1⟩
      rw [hp]
      have hb1' : Below w.heap.size w w1 := Below.trans (by go_grown) (hb1.mono (by simp))
      have k0 := (cellOf (o := 0) hb1 (show w.heap.size < _ by simp)).trans (cell_blk (heap_new rfl) 0)
      have k1 := (cellOf (o := 1) hb1 (show w.heap.size < _ by simp)).trans (cell_blk (heap_new rfl) 1)
      have hlt : w.heap.size < w1.heap.size := by have := hb1.size; simp at this; omega
      simp only [List.getElem?_toArray, List.getElem?_cons_zero, List.getElem?_cons_succ] at k0 k1
      clear hb1
      go_wp2_with fail
      simp only [decide_eq_false (show ¬ ((k : Int) < 0) by omega), decide_eq_false (show ¬ (n < k) by omega), Bool.false_or]
      go_loopw [7] (fun v wr => ∃ i : Nat, i ≤ k + 1 ∧ v = .int .i64 (i : Int) ∧ ((List.range i).any fun i => reachL (zs.take k) xs (fun j => j == i) k) = false ∧ (st = true → i = 0) ∧ Below w1.heap.size w1 wr) (fun v _ => k + 1 - (RowKit.intOf v).toNat)
      case atStart => exact ⟨0, by omega, rfl, rfl, fun _ => rfl, Below.refl _ _⟩
      case round =>
        obtain ⟨i, hi, rfl, hno, hst, hbr⟩ := hrel
        have hb4 : Below w.heap.size w wr := hb1'.trans (hbr.mono hb1'.size)
        have Hno := Lib.hid hno
        have Hst := Lib.hid hst
        clear hno hst
        have c0 := (cellOf hbr hlt).trans k0
        have c1 := (cellOf hbr hlt).trans k1
        rcases Nat.lt_or_ge k i with hge | hle
        · have hik : i = k + 1 := by omega
          have hst2 : st = false := by
            rcases st with _ | _
            · rfl
            · have := Hst.out rfl; omega
          have hV : V = false := by rw [Hel.out, hst2]; simp only [Bool.false_eq_true, if_false]; rw [← hik]; exact Hno.out
          have HV := Lib.hid hV
          subst hik
          clear hV hst2
          go_wp2_with fail
          go_ret
          exact ⟨ret_bool HV.out.symm, hb4⟩
        · have hin := Hends.out i hle wr.drew hb4.drew
          have Hin := Lib.hid hin
          clear hin
          go_upto_region 6 with fail
          refine wp_region_noPanic ?_
          refine wp_region_held_drew (S := (fun V => V.cell? ⟨w.heap.size, 0, none⟩ = some (.bool st) ∧ V.cell? ⟨w.heap.size, 1, none⟩ = some (.slice Ai m ci))) (by kernel_rfl) ⟨c0, c1⟩ (fun hHeld => ?_)
          refine wpAnyH_take (i := 0) (v := .agg #[.bool st, .slice Ai m ci]) rfl (by kernel_rfl) (by kernel_rfl) (by kernel_rfl) (fun _ _ _ h => h) (.inl ⟨by rfl, fun V hV => by obtain ⟨c0, c1⟩ := hV; go_simp⟩) hHeld ?_
          try simp only [Act.put, List.getElem_toArray, List.getElem_cons_zero, List.setIfInBounds_toArray, List.set_cons_zero, List.set_cons_succ]
          refine wpAnyH_take (i := 1) (v := .slice A n c) rfl (by kernel_rfl) (by kernel_rfl) (by kernel_rfl) (fun _ _ _ h => h) (.inl ⟨by rfl, fun V hV => by obtain ⟨c0, c1⟩ := hV; go_simp⟩) hHeld ?_
          try simp only [Act.put, List.getElem_toArray, List.getElem_cons_zero, List.getElem_cons_succ, List.setIfInBounds_toArray, List.set_cons_zero, List.set_cons_succ]
          refine wpAnyH_take (i := 2) (v := .int .i64 (k : Int)) rfl (by kernel_rfl) (by kernel_rfl) (by kernel_rfl) (fun _ _ _ h => h) (.inl ⟨by rfl, fun V hV => by obtain ⟨c0, c1⟩ := hV; go_simp⟩) hHeld ?_
          try simp only [Act.put, List.getElem_toArray, List.getElem_cons_zero, List.getElem_cons_succ, List.setIfInBounds_toArray, List.set_cons_zero, List.set_cons_succ]
          refine wpAnyH_take (i := 3) (v := .slice A k c) rfl (by kernel_rfl) (by kernel_rfl) (by kernel_rfl) (fun _ _ _ h => h) (.inl ⟨by rfl, fun V hV => by obtain ⟨c0, c1⟩ := hV; go_simp⟩) hHeld ?_
          try simp only [Act.put, List.getElem_toArray, List.getElem_cons_zero, List.getElem_cons_succ, List.setIfInBounds_toArray, List.set_cons_zero, List.set_cons_succ]
          refine wpAnyH_take (i := 4) (v := .int .i64 (i : Int)) rfl (by kernel_rfl) (by kernel_rfl) (by kernel_rfl) (fun _ _ _ h => h) (.inl ⟨by rfl, fun V hV => by obtain ⟨c0, c1⟩ := hV; go_simp⟩) hHeld ?_
          try simp only [Act.put, List.getElem_toArray, List.getElem_cons_zero, List.getElem_cons_succ, List.setIfInBounds_toArray, List.set_cons_zero, List.set_cons_succ]
          refine wpAnyH_take (i := 6) (v := .int .i64 (k : Int)) rfl (by kernel_rfl) (by kernel_rfl) (by kernel_rfl) (fun _ _ _ h => h) (.inl ⟨by rfl, fun V hV => by obtain ⟨c0, c1⟩ := hV; go_simp⟩) hHeld ?_
          try simp only [Act.put, List.getElem_toArray, List.getElem_cons_zero, List.getElem_cons_succ, List.setIfInBounds_toArray, List.set_cons_zero, List.set_cons_succ]
          refine wpAnyH_ready (rs := [5]) (by kernel_rfl) (by simp) ?_
          refine AllReadyH.cons rfl (fun K hK => ?_) AllReadyH.nil
          go_simp
          refine (Hin.out).mono ?_
          rintro e w3 ⟨⟨gb, go, gc, rfl, hg, hgc⟩, hb5⟩
          have hb6 : Below w1.heap.size w1 w3 := hbr.drew.trans (hb5.mono hbr.size)
          have d0 := (cellOf hb6 hlt).trans k0
          have d1 := (cellOf hb6 hlt).trans k1
          have hgk := hgc k (Nat.le_refl _)
          have hb7 : Below w.heap.size w w3 := hb1'.trans (hb6.mono hb1'.size)
          refine hK.out _ _ ⟨d0, d1⟩ (fun hHeld => ?_)
          clear hK K
          try simp only [Act.put, List.getElem_toArray, List.getElem_cons_zero, List.getElem_cons_succ, List.setIfInBounds_toArray, List.set_cons_zero, List.set_cons_succ]
          refine wpAnyH_take (i := 7) (v := .pointer (some ⟨gb, go + k, none⟩)) rfl (by kernel_rfl) (by kernel_rfl) (by kernel_rfl) (fun _ _ _ h => h) (.inl ⟨by rfl, fun V hV => by obtain ⟨c0, c1⟩ := hV; go_simp; intro hx; omega⟩) hHeld ?_
          try simp only [Act.put, List.getElem_toArray, List.getElem_cons_zero, List.getElem_cons_succ, List.setIfInBounds_toArray, List.set_cons_zero, List.set_cons_succ]
          refine wpAnyH_ready (rs := [8]) (by kernel_rfl) (by simp) ?_
          refine AllReadyH.cons rfl (fun K hK => ?_) AllReadyH.nil
          go_simp
          refine hK.out _ _ hHeld (fun hHeld => ?_)
          clear hK K
          try simp only [Act.put, List.getElem_toArray, List.getElem_cons_zero, List.getElem_cons_succ, List.setIfInBounds_toArray, List.set_cons_zero, List.set_cons_succ]
          refine wpAnyH_done (by kernel_rfl) ?_ _
          refine NoPanic.normal ?_
          clear hgc hb5 c0 c1 hbr hb4
          clear hHeld
          rcases hR : reachL (zs.take k) xs (fun j => j == i) k with _ | _
          · have hnx : ((List.range (i + 1)).any fun i => reachL (zs.take k) xs (fun j => j == i) k) = false := by
              rw [List.range_succ, List.any_append, Hno.out]; simp [hR]
            have Hnx := Lib.hid hnx
            clear hnx
            rcases hsv : st with _ | _
            · subst hsv
              go_wp2_with fail
              go_roundw
              case rel => exact ⟨i + 1, by omega, by go_num, Hnx.out, (fun h => by cases h), hb6⟩
              case measure => simp [RowKit.intOf]; omega
            · have hi0 : i = 0 := Hst.out hsv
              have hV : V = false := by
                have := Hnx.out
                rw [hi0] at this
                rw [Hel.out, hsv, if_pos rfl]; exact this
              have HV := Lib.hid hV
              subst hsv
              clear hV hi0 Hst
              go_wp2_with fail
              go_ret
              exact ⟨ret_bool HV.out.symm, hb7⟩
          · have hV : V = true := by
              rw [Hel.out, List.any_eq_true]
              refine ⟨i, List.mem_range.2 ?_, hR⟩
              rcases hsv : st with _ | _
              · simp; omega
              · have := Hst.out hsv; simp; omega
            have HV := Lib.hid hV
            clear hV
            go_wp2_with fail
            go_ret
            exact ⟨ret_bool HV.out.symm, hb7⟩
    · have hf : behindB st xs zs a = false := by
        have h1 : (decide (0 ≤ a) && decide (a ≤ zs.length)) = false := by
          rw [Hlen.out]
          rw [← Bool.not_eq_true, Bool.and_eq_true, decide_eq_true_eq, decide_eq_true_eq]; exact hgood
        rw [behindB, ← Bool.and_assoc (decide (0 ≤ a)), h1]; simp
      rw [hf]
      clear hf
      have hg : a < 0 ∨ 0 ≤ a ∧ (n : Int) < a := by omega
      clear hgood
      rcases hg with hg | ⟨hg0, hg⟩
      all_goals
        go_enter Tryz.func28, Tryz.ntmps28
        go_wp2_with fail
        refine (Hright.out _ (by go_grown)).mono ?_
        rintro e w1 ⟨rfl, hb1⟩
        rw [hp]
        have hb1' : Below w.heap.size w w1 := Below.trans (by go_grown) (hb1.mono (by simp))
        clear hb1
        go_wp2_with fail
        go_ret
        exact ⟨rfl, hb1'⟩
end Go.Vir

/- viramaref11: Right, Applies, Decide. -/
namespace Go.Vir
open Go Go.RowKit Go.Proofs Go.Shelf
attribute [local go_sem] Oper.semAt_some

theorem rulesB_bad {n : Int} {rs : List RuleV} {k : Nat} (h : k < rs.length) (hb : ruleOk n rs[k] = false) : rulesB n rs = false := by
  have : rs.all (ruleOk n) = false := by
    rw [List.all_eq_false]
    exact ⟨rs[k], List.getElem_mem h, by rw [hb]; simp⟩
  unfold rulesB
  rw [this]; simp

set_option maxRecDepth 100000 in
set_option maxHeartbeats 1600000 in
theorem ref_Right11 (A : Option Addr) (m c : Nat) (rs : List RuleV) (n : Int) (w : World) (hx : Rls w w.heap.size A m rs) (hm : m ≤ 1000000) :
    Calls Tryz.prog 43 #[.slice A m c, .int .i64 n] w fun e w' => e = .returned (.bool (rulesB n rs)) ∧ Below w.heap.size w w' := by
  have hl := hx.len
  have hfin : rs.all (ruleOk n) = true → rulesB n rs = (decide (1 ≤ n) && (decide (n ≤ 32) && decide (m ≤ 40))) := fun h => by
    unfold rulesB; rw [h, hl]; simp
  have hbad := fun (k : Nat) (h : k < rs.length) (hb : ruleOk n rs[k] = false) => rulesB_bad h hb
  have Hfin := Lib.hid hfin
  have Hbad := Lib.hid hbad
  have Hl := Lib.hid hl
  clear hfin hbad hl
  generalize rulesB n rs = V at *
  go_enter Tryz.func43, Tryz.ntmps43
  go_wp2
  go_loopw [5] (fun i wr => ∃ k : Nat, k ≤ m ∧ i = .int .i64 (k : Int) ∧ (rs.take k).all (ruleOk n) = true ∧ Below w.heap.size w wr) (fun i _ => m - (RowKit.intOf i).toNat)
  case atStart => exact ⟨0, Nat.zero_le _, rfl, rfl, Below.refl _ _⟩
  case round =>
    obtain ⟨k, hk, rfl, hall, hbr⟩ := hrel
    rcases Nat.lt_or_ge k m with hlt | hge
    · obtain ⟨rb, ro, rfl, hrb, hrc⟩ := hx.at_ (by omega)
      have hkr : k < rs.length := by rw [Hl.out]; exact hlt
      obtain ⟨Al, ml, cl, Ar, mr, cr, y0, y1, y2, y3, y4, hM⟩ := hrc k hkr
      have hb := Hbad.out k hkr
      have hnx : ruleOk n rs[k] = true → (rs.take (k + 1)).all (ruleOk n) = true := fun h => by
        rw [List.take_succ_eq_append_getElem hkr, List.all_append, hall]; simp [h]
      have Hb := Lib.hid hb
      have Hnx := Lib.hid hnx
      clear hrc hb hnx hall
      generalize rs[k] = x at *
      obtain ⟨sl, xl, sr, xr, br⟩ := x
      simp only at y0 y1 y2 y3 y4
      have hp1 := fun W (hW : Below w.heap.size w W) => ref_Right9 sl Al ml cl xl n W ((hM.left.below hW).more hW.size) (by have := hM.lb; omega)
      have hp2 := fun W (hW : Below w.heap.size w W) => ref_Right9 sr Ar mr cr xr n W ((hM.right.below hW).more hW.size) (by have := hM.rb; omega)
      have Hp1 := Lib.hid hp1
      have Hp2 := Lib.hid hp2
      have u0 := (cellOf hbr hrb).trans y0
      have u1 := (cellOf hbr hrb).trans y1
      clear hp1 hp2 hM
      go_wp2_with fail
      refine (Hp1.out _ hbr).mono ?_
      rintro e w1 ⟨rfl, hb1⟩
      have hb2 := hbr.trans (hb1.mono hbr.size)
      have v2 := (cellOf hb2 hrb).trans y2
      have v3 := (cellOf hb2 hrb).trans y3
      clear u0 u1 hb1
      rcases h1 : patB n xl with _ | _
      · have hv := Hb.out (by simp [ruleOk, h1])
        have Hv := Lib.hid hv
        clear hv h1
        go_wp2_with fail
        go_ret
        exact ⟨ret_bool Hv.out.symm, hb2⟩
      · go_wp2_with fail
        refine (Hp2.out _ hb2).mono ?_
        rintro e w2 ⟨rfl, hb3⟩
        have hb4 := hb2.trans (hb3.mono hb2.size)
        have t2 := (cellOf hb4 hrb).trans y2
        clear v2 v3 hb3
        rcases h2 : patB n xr with _ | _
        · have hv := Hb.out (by simp [ruleOk, h1, h2])
          have Hv := Lib.hid hv
          clear hv h1 h2
          go_wp2_with fail
          go_ret
          exact ⟨ret_bool Hv.out.symm, hb4⟩
        · rcases sr with _ | _
          · have ha := Hnx.out (by simp [ruleOk, h1, h2])
            have Ha := Lib.hid ha
            clear ha h1 h2
            go_wp2_with fail
            go_roundw
            case rel => exact ⟨k + 1, by omega, by go_num, Ha.out, hb4⟩
            case measure => simp [RowKit.intOf]; omega
          · have hv := Hb.out (by simp [ruleOk])
            have Hv := Lib.hid hv
            clear hv h1 h2
            go_wp2_with fail
            go_ret
            exact ⟨ret_bool Hv.out.symm, hb4⟩
    · have hv := Hfin.out (by rw [List.take_of_length_le (by rw [Hl.out]; exact hge)] at hall; exact hall)
      have Hv := Lib.hid hv
      have hkm : k = m := by omega
      subst hkm
      clear hall hv
      rcases (show n < 1 ∨ (1 ≤ n ∧ 32 < n) ∨ (1 ≤ n ∧ n ≤ 32)by omega) with h1 | ⟨h1, h2⟩ | ⟨h1, h2⟩
      · go_wp2_with fail
        go_ret
        exact ⟨ret_bool (by rw [Hv.out, decide_eq_false (show ¬ 1 ≤ n by omega)]; rfl), hbr⟩
      · go_wp2_with fail
        go_ret
        exact ⟨ret_bool (by rw [Hv.out, decide_eq_false (show ¬ n ≤ 32 by omega)]; simp), hbr⟩
      · go_wp2_with fail
        go_ret
        refine ⟨ret_bool ?_, hbr⟩
        rw [Hv.out, decide_eq_true h1, decide_eq_true h2, Bool.true_and, Bool.true_and, decide_eq_decide]
        omega

set_option maxRecDepth 100000 in
set_option maxHeartbeats 1600000 in
theorem ref_Applies11 (x : RuleV) (Al Ar A : Option Addr) (ml cl mr cr n c : Nat) (zs : List Int) (a : Int) (w : World) (hm : RuleM w w.heap.size x Al ml cl Ar mr cr) (hcl : ml ≤ cl) (hcr : mr ≤ cr) (hz : Ints w w.heap.size A n zs) (hn : n ≤ 1000) (hnc : n ≤ c) :
    Calls Tryz.prog 40 #[ruleV x Al ml cl Ar mr cr, .slice A n c, .int .i64 a] w fun e w' => e = .returned (.bool (appB zs a x)) ∧ Below w.heap.size w w' := by
  have Hlen := Lib.hid hz.len
  have hr := fun W (hW : Below w.heap.size w W) g (hg : W.heap[g]? = some (.cells #[.bool x.sl, .slice Al ml cl, .bool x.sr, .slice Ar mr cr, .bool x.br] 50 (0, 0))) =>
    ref_Right11 (some ⟨g, 0, none⟩) 1 1 [x] 32 W (rls_one ((hm.below hW).more hW.size) g _ hg) (by omega)
  have hbe := fun W (hW : Below w.heap.size w W) => ref_Behind x.sl Al A ml cl n c x.xl zs a W ((hm.left.below hW).more hW.size) hcl ((hz.below hW).more hW.size) hm.lb hn hnc
  have hah := fun W (hW : Below w.heap.size w W) => ref_Ahead x.sr Ar A mr cr n c x.xr zs a W ((hm.right.below hW).more hW.size) hcr ((hz.below hW).more hW.size) hm.rb hn
  rw [rulesB_one] at hr
  have Hr := Lib.hid hr
  have Hbe := Lib.hid hbe
  have Hah := Lib.hid hah
  clear hr hbe hah hm hz
  have happ : appB zs a x = (ruleOk 32 x && (decide (0 < a) && (decide (a < n) && (behindB x.sl x.xl zs a && aheadB x.sr x.xr zs a)))) := by
    unfold appB; rw [Hlen.out]
  have Happ := Lib.hid happ
  clear happ
  obtain ⟨sl, xl, sr, xr, br⟩ := x
  simp only at Hr Hbe Hah Happ
  simp only [ruleV]
  go_enter Tryz.func40, Tryz.ntmps40
  go_wp2_with fail
  refine (Hr.out _ (by go_grown) _ (heap_new (by simp))).mono ?_
  rintro e w1 ⟨rfl, hb1⟩
  have hbx : Below w.heap.size w w1 := Below.trans (by go_grown) (hb1.mono (by simp; omega))
  have hbk : w1.heap[w.heap.size]? = some (.cells #[.bool sl, .slice Al ml cl, .bool sr, .slice Ar mr cr, .bool br] 50 (0, 0)) := by
    rw [hb1.block _ (by simp; omega), heap_old (by simp)]; exact heap_new rfl
  have hlt := (Array.getElem?_eq_some_iff.1 hbk).1
  have c0 : w1.cell? ⟨w.heap.size, 0, none⟩ = some (.bool sl) := cell_blk hbk 0
  have c1 : w1.cell? ⟨w.heap.size, 1, none⟩ = some (.slice Al ml cl) := cell_blk hbk 1
  have c2 : w1.cell? ⟨w.heap.size, 2, none⟩ = some (.bool sr) := cell_blk hbk 2
  have c3 : w1.cell? ⟨w.heap.size, 3, none⟩ = some (.slice Ar mr cr) := cell_blk hbk 3
  clear hb1 hbk
  rcases h1 : ruleOk 32 { sl := sl, xl := xl, sr := sr, xr := xr, br := br } with _ | _
  · go_wp2_with fail
    go_ret
    exact ⟨ret_bool (by rw [Happ.out, h1]; rfl), hbx⟩
  · rcases (show a ≤ 0 ∨ (0 < a ∧ (n : Int) ≤ a) ∨ (0 < a ∧ a < n) by omega) with ha | ⟨ha, ha2⟩ | ⟨ha, ha2⟩
    · have hf : appB zs a { sl := sl, xl := xl, sr := sr, xr := xr, br := br } = false := by
        rw [Happ.out, decide_eq_false (show ¬ 0 < a by omega)]; simp
      have Hf := Lib.hid hf
      clear hf
      go_wp2_with fail
      go_ret
      exact ⟨ret_bool Hf.out.symm, hbx⟩
    · have hf : appB zs a { sl := sl, xl := xl, sr := sr, xr := xr, br := br } = false := by
        rw [Happ.out, decide_eq_false (show ¬ a < n by omega)]; simp
      have Hf := Lib.hid hf
      clear hf
      go_wp2_with fail
      go_ret
      exact ⟨ret_bool Hf.out.symm, hbx⟩
    · have hf : appB zs a { sl := sl, xl := xl, sr := sr, xr := xr, br := br } = (behindB sl xl zs a && aheadB sr xr zs a) := by
        rw [Happ.out, h1, decide_eq_true ha, decide_eq_true ha2]; simp
      have Hf := Lib.hid hf
      clear hf Happ
      go_wp2_with fail
      refine (Hbe.out _ hbx).mono ?_
      rintro e w2 ⟨rfl, hb2⟩
      have d2 := (cellOf hb2 hlt).trans c2
      have d3 := (cellOf hb2 hlt).trans c3
      have hby := hbx.trans (hb2.mono hbx.size)
      clear hb2 c0 c1 c2 c3 hbx
      rcases h2 : behindB sl xl zs a with _ | _
      · go_wp2_with fail
        go_ret
        exact ⟨ret_bool (by rw [Hf.out, h2]; rfl), hby⟩
      · go_wp2_with fail
        refine (Hah.out _ hby).mono ?_
        rintro e w3 ⟨rfl, hb3⟩
        go_wp2_with fail
        go_ret
        exact ⟨ret_bool (by rw [Hf.out, h2]; rfl), hby.trans (hb3.mono hby.size)⟩

set_option maxRecDepth 100000 in
set_option maxHeartbeats 1600000 in
theorem ref_Decide11 (A B : Option Addr) (m c n cz : Nat) (rs : List RuleV) (zs : List Int) (a : Int) (w : World) (hx : RlsC w w.heap.size A m rs) (hz : Ints w w.heap.size B n zs) (hm : m ≤ 1000000) (hn : n ≤ 1000) (hnc : n ≤ cz) :
    Calls Tryz.prog 38 #[.slice A m c, .slice B n cz, .int .i64 a] w fun e w' => e = .returned (.tuple #[.bool (decideB rs zs a).1, .int .i64 (decideB rs zs a).2]) ∧ Below w.heap.size w w' := by
  have hr := ref_Right11 A m c rs 32 w hx.rls hm
  have Hr := Lib.hid hr
  have hbad := fun h => decideB_bad (rs := rs) (l := zs) (at_ := a) h
  have hgood := fun h h0 h1 => decideB_good (rs := rs) (l := zs) (at_ := a) h h0 h1
  rw [hz.len] at hbad hgood
  have Hbad := Lib.hid hbad
  have Hgood := Lib.hid hgood
  have Hl := Lib.hid hx.len
  clear hr hbad hgood
  generalize decideB rs zs a = D at *
  rcases h1 : rulesB 32 rs with _ | _
  · have hD := Hbad.out (.inl h1)
    subst hD
    go_enter Tryz.func38, Tryz.ntmps38
    go_wp2_with fail
    refine Hr.out.mono ?_
    rintro e w1 ⟨rfl, hb1⟩
    rw [h1]
    go_wp2_with fail
    go_ret2
    exact ⟨rfl, hb1⟩
  · rcases (show a ≤ 0 ∨ (0 < a ∧ (n : Int) ≤ a) ∨ (0 < a ∧ a < n) by omega) with ha | ⟨ha, ha2⟩ | ⟨ha, ha2⟩
    · have hD := Hbad.out (.inr (.inl ha))
      subst hD
      go_enter Tryz.func38, Tryz.ntmps38
      go_wp2_with fail
      refine Hr.out.mono ?_
      rintro e w1 ⟨rfl, hb1⟩
      rw [h1]
      go_wp2_with fail
      go_ret2
      exact ⟨rfl, hb1⟩
    · have hD := Hbad.out (.inr (.inr ha2))
      subst hD
      go_enter Tryz.func38, Tryz.ntmps38
      go_wp2_with fail
      refine Hr.out.mono ?_
      rintro e w1 ⟨rfl, hb1⟩
      rw [h1]
      go_wp2_with fail
      go_ret2
      exact ⟨rfl, hb1⟩
    · have hD := Hgood.out h1 ha ha2
      have HD := Lib.hid hD
      clear hD
      go_enter Tryz.func38, Tryz.ntmps38
      go_wp2_with fail
      refine Hr.out.mono ?_
      rintro e w1 ⟨rfl, hb1⟩
      rw [h1]
      clear h1
      go_wp2_with fail
      go_loopw [8] (fun i wr => ∃ k : Nat, k ≤ m ∧ i = .int .i64 (k : Int) ∧ sayB zs a rs 0 = sayB zs a (rs.drop k) k ∧ Below w.heap.size w wr) (fun i _ => m - (RowKit.intOf i).toNat)
      case atStart => exact ⟨0, Nat.zero_le _, rfl, rfl, hb1⟩
      case round =>
        obtain ⟨k, hk, rfl, hsay, hbr⟩ := hrel
        have Hsay := Lib.hid hsay
        clear hsay
        rcases Nat.lt_or_ge k m with hlt | hge
        · obtain ⟨rb, ro, rfl, hrb, hrc⟩ := hx.at_ (by omega)
          have hkr : k < rs.length := by rw [Hl.out]; exact hlt
          obtain ⟨Al, ml, cl, Ar, mr, cr, y0, y1, y2, y3, y4, hM, hcl, hcr⟩ := hrc k hkr
          have Hdrop := Lib.hid (sayB_drop (l := zs) (at_ := a) hkr)
          clear hrc
          generalize rs[k] = x at *
          obtain ⟨sl, xl, sr, xr, br⟩ := x
          simp only at y0 y1 y2 y3 y4
          have hap := ref_Applies11 { sl := sl, xl := xl, sr := sr, xr := xr, br := br } Al Ar B ml cl mr cr n cz zs a wr ((hM.below hbr).more hbr.size) hcl hcr ((hz.below hbr).more hbr.size) hn hnc
          simp only [ruleV] at hap
          have u0 := (cellOf hbr hrb).trans y0
          have u1 := (cellOf hbr hrb).trans y1
          have u2 := (cellOf hbr hrb).trans y2
          have u3 := (cellOf hbr hrb).trans y3
          have u4 := (cellOf hbr hrb).trans y4
          rcases hA : appB zs a { sl := sl, xl := xl, sr := sr, xr := xr, br := br } with _ | _
          · have hst : sayB zs a rs 0 = sayB zs a (rs.drop (k + 1)) (k + 1) := by rw [Hsay.out, Hdrop.out, hA]; rfl
            rw [hA] at hap
            have Hst := Lib.hid hst
            have Hap := Lib.hid hap
            clear hst hap hA hM
            go_wp2_with fail
            refine Hap.out.mono ?_
            rintro e w9 ⟨rfl, hb9⟩
            go_wp2_with fail
            go_roundw
            case rel => exact ⟨k + 1, by omega, by go_num, Hst.out, hbr.trans (hb9.mono hbr.size)⟩
            case measure => simp [RowKit.intOf]; omega
          · have hst : D = (br, (k : Int)) := by rw [HD.out, Hsay.out, Hdrop.out, hA]; rfl
            rw [hA] at hap
            have Hst := Lib.hid hst
            have Hap := Lib.hid hap
            clear hst hap hA hM
            go_wp2_with fail
            refine Hap.out.mono ?_
            rintro e w9 ⟨rfl, hb9⟩
            have hbx := hbr.trans (hb9.mono hbr.size)
            have v4 := (cellOf hbx hrb).trans y4
            clear u0 u1 u2 u3 u4
            go_wp2_with fail
            go_ret2
            exact ⟨by rw [Hst.out]; rfl, hbx⟩
        · have hst : D = (true, -1) := by rw [HD.out, Hsay.out, List.drop_eq_nil_of_le (by rw [Hl.out]; exact hge)]; rfl
          have Hst := Lib.hid hst
          clear hst
          go_wp2_with fail
          go_ret2
          exact ⟨by rw [Hst.out]; rfl, hbr⟩
end Go.Vir

/- viramaref11: Cuts. -/
namespace Go.Vir
open Go Go.RowKit Go.Proofs Go.Shelf
attribute [local go_sem] Oper.semAt_some

/-- The boundaries ahead of place k, or all. -/
def tillB (rs : List RuleV) (zs : List Int) (n k : Nat) : List Int := if k ≤ n then 0 :: insB rs zs k else (cutsB rs zs).1

theorem till_step {rs : List RuleV} {zs : List Int} {n k : Nat} (hR : rulesB 32 rs = true) (hl : zs.length = n) (h1 : 1 ≤ k) (hk : k ≤ n) :
    tillB rs zs n (k + 1) = tillB rs zs n k ++ (if (decideB rs zs (k : Int)).1 || decide (k = n) then [(k : Int)] else []) := by
  unfold tillB
  rw [if_pos hk]
  rcases Nat.lt_or_ge k n with h | h
  · rw [if_pos (by omega), insB_succ rs zs k (by omega), decideB_good hR (by omega) (by omega), decide_eq_false (by omega)]
    simp
  · have : k = n := by omega
    subst this
    rw [if_neg (by omega), decide_eq_true rfl, cutsB, if_pos hR, hl, if_pos (by omega)]
    simp
theorem till_one {rs : List RuleV} {zs : List Int} {n : Nat} (hR : rulesB 32 rs = true) (hl : zs.length = n) : tillB rs zs n 1 = [0] := by
  unfold tillB
  split
  · rw [insB_one]
  · have : n = 0 := by omega
    subst this
    have hz : zs = [] := List.eq_nil_of_length_eq_zero hl
    subst hz
    rw [cutsB, if_pos hR]
    rfl
theorem till_len (rs : List RuleV) (zs : List Int) (n k : Nat) (hl : zs.length = n) : (tillB rs zs n k).length ≤ n + 2 := by
  unfold tillB
  split
  · have := insB_len rs zs k; simp; omega
  · have := insB_len rs zs zs.length
    unfold cutsB
    split
    · split <;> simp <;> omega
    · simp

set_option maxRecDepth 100000 in
set_option maxHeartbeats 4000000 in
theorem ref_Cuts11 (A B : Option Addr) (m c n cz : Nat) (rs : List RuleV) (zs : List Int) (w : World) (hx : RlsC w w.heap.size A m rs) (hz : Ints w w.heap.size B n zs) (hm : m ≤ 1000000) (hn : n ≤ 1000) (hnc : n ≤ cz) :
    Calls Tryz.prog 36 #[.slice A m c, .slice B n cz] w fun e w' => CutsEnd (cutsB rs zs) e w' ∧ Below w.heap.size w w' := by
  have hr := ref_Right11 A m c rs 32 w hx.rls hm
  have Hr := Lib.hid hr
  have hzl := hz.len
  have Hzl := Lib.hid hzl
  clear hr hzl
  rcases h1 : rulesB 32 rs with _ | _
  · have hD : cutsB rs zs = ([], 90) := by rw [cutsB, h1]; rfl
    rw [hD]
    clear hD
    go_enter Tryz.func36, Tryz.ntmps36
    go_wp2_with fail
    refine Hr.out.mono ?_
    rintro e w1 ⟨rfl, hb1⟩
    rw [h1]
    go_wp2_with fail
    go_ret2
    exact ⟨⟨none, 0, 0, rfl, Ints.nil _ _ _⟩, hb1⟩
  · have hD : (cutsB rs zs).2 = 0 ∧ tillB rs zs n (n + 1) = (cutsB rs zs).1 := by
      refine ⟨by rw [cutsB, if_pos h1], ?_⟩
      unfold tillB
      rw [if_neg (by omega)]
    have HD := Lib.hid hD
    have hst := fun k a b => till_step (rs := rs) (zs := zs) (n := n) (k := k) h1 Hzl.out a b
    have Hst := Lib.hid hst
    have Hone := Lib.hid (till_one (rs := rs) (zs := zs) (n := n) h1 Hzl.out)
    have Hlen := Lib.hid (fun k => till_len rs zs n k Hzl.out)
    have hde := fun (k : Int) W (hW : Below w.heap.size w W) => ref_Decide11 A B m c n cz rs zs k W ((hx.below hW).more hW.size) ((hz.below hW).more hW.size) hm hn hnc
    have Hde := Lib.hid hde
    obtain ⟨i0, hi0, hz0, hz1, hz2⟩ := info_parts int_info
    clear hD hst hde hx hz
    go_enter Tryz.func36, Tryz.ntmps36
    go_wp2_with fail
    refine Hr.out.mono ?_
    rintro e w1 ⟨rfl, hb1⟩
    rw [h1]
    clear h1
    go_wp2_with fail
    have hrow0 : (w1.alloc (.cells #[.int .i64 0] 3)).ownsRow w.heap.size 3 1 (.slice (some ⟨w1.heap.size, 0, none⟩) 1 1) 1 (([0] : List Int).map (Value.int .i64)) :=
      ⟨rfl, .inr ⟨w1.heap.size, 1, #[.int .i64 0], rfl, hb1.size, heap_new rfl, Nat.le_refl _, by simp [maxLen], rfl, rfl⟩⟩
    have hb2 : Below w.heap.size w (w1.alloc (.cells #[.int .i64 0] 3)) := hb1.alloc hb1.size _
    go_loopw [6, 7] (fun v i wr => ∃ k : Nat, 1 ≤ k ∧ k ≤ n + 1 ∧ i = .int .i64 (k : Int) ∧ wr.ownsRow w.heap.size 3 1 v (tillB rs zs n k).length ((tillB rs zs n k).map (Value.int .i64)) ∧ Below w.heap.size w wr) (fun _ i _ => n + 1 - (RowKit.intOf i).toNat)
    case atStart => exact ⟨1, by omega, by omega, rfl, by rw [Hone.out]; exact hrow0, hb2⟩
    case round =>
      obtain ⟨k, hk1, hk, rfl, hown, hbr⟩ := hrel
      clear hrow0 hb2
      have hlk := Hlen.out k
      rcases Nat.lt_or_ge n k with hgt | hle
      · have hkn : k = n + 1 := by omega
        subst hkn
        rw [HD.out.2] at hown
        obtain ⟨A', c', rfl, hI⟩ := own_ints hown
        have Hd2 := Lib.hid HD.out.1
        clear hown
        go_wp2_with fail
        go_ret2
        exact ⟨⟨A', _, c', by rw [Hd2.out]; rfl, hI⟩, hbr⟩
      · have hd := Hde.out (k : Int) wr hbr
        have hs := Hst.out k hk1 hle
        generalize decideB rs zs (k : Int) = d at *
        obtain ⟨d1, d2⟩ := d
        simp only at hd hs
        have Hd := Lib.hid hd
        have Hs := Lib.hid hs
        have Hlt := Lib.hid hown.lt
        clear hd hs
        go_wp2_with fail
        refine Hd.out.mono ?_
        rintro e w3 ⟨rfl, hb3⟩
        have hown3 := ownsRow_below hown hb3
        have hbr3 := hbr.trans (hb3.mono hbr.size)
        clear hown hb3
        by_cases hap : (d1 || decide (k = n)) = true
        · have hs2 : tillB rs zs n (k + 1) = tillB rs zs n k ++ [(k : Int)] := by rw [Hs.out, if_pos hap]
          have Hs2 := Lib.hid hs2
          have hown4 := hown3.alloc (.cells #[.int .i64 (k : Int)] 3)
          have Hcs := Lib.hid (cell_one_at w3 (.int .i64 (k : Int)) 3)
          have hbr4 : Below w.heap.size w (w3.alloc (.cells #[.int .i64 (k : Int)] 3)) := hbr3.alloc hbr3.size _
          have hbs := hbr3.size
          have Hgw := Lib.hid (fun (g : Nat) (hg : _ = some g) => (row_data hown3 g hg))
          clear hs2 hown3 hbr3
          rcases d1 with _ | _
          · have hkn : k = n := by simpa using hap
            subst hkn
            have hcd : decide (k ≤ k) = true := by simp
            clear hap
            go_wp2_with (at_builtin; refine wpList_append_at _ rfl _ _ 36 rfl w.heap.size 3 i0 (.int .i64 0) 1 8 Tryz.underlying36 hi0 hz0 hz1 hz2 rfl (by decide) _ _ _ rfl hown4 ⟨w3.heap.size, 0, none⟩ 1 1 [.int .i64 (k : Int)] rfl rfl Hcs.out (by simp [Value.oneCell']) (by simp only [maxLen]; omega) (by omega) (by simp; omega) ?_; intro v' w5 hown5 hgrow hat)
            have hbr5 : Below w.heap.size w w5 := hbr4.grown hgrow (by simp; omega) (fun g hg => (Hgw.out g hg).1)
            go_roundw
            case rel => exact ⟨k + 1, by omega, by omega, by go_num, by rw [Hs2.out]; simpa using hown5, hbr5⟩
            case measure => simp [RowKit.intOf]
          · clear hap
            go_wp2_with (at_builtin; refine wpList_append_at _ rfl _ _ 36 rfl w.heap.size 3 i0 (.int .i64 0) 1 8 Tryz.underlying36 hi0 hz0 hz1 hz2 rfl (by decide) _ _ _ rfl hown4 ⟨w3.heap.size, 0, none⟩ 1 1 [.int .i64 (k : Int)] rfl rfl Hcs.out (by simp [Value.oneCell']) (by simp only [maxLen]; omega) (by omega) (by simp; omega) ?_; intro v' w5 hown5 hgrow hat)
            have hbr5 : Below w.heap.size w w5 := hbr4.grown hgrow (by simp; omega) (fun g hg => (Hgw.out g hg).1)
            go_roundw
            case rel => exact ⟨k + 1, by omega, by omega, by go_num, by rw [Hs2.out]; simpa using hown5, hbr5⟩
            case measure => simp [RowKit.intOf]; omega
        · have hs2 : tillB rs zs n (k + 1) = tillB rs zs n k := by rw [Hs.out, if_neg hap, List.append_nil]
          have Hs2 := Lib.hid hs2
          have hdd : d1 = false ∧ k ≠ n := by simpa using hap
          obtain ⟨rfl, hkn⟩ := hdd
          have hkb : ((k : Int) == (n : Int)) = false := by rw [beq_eq_false_iff_ne]; omega
          clear hap hs2
          go_wp2_with fail
          go_roundw
          case rel => exact ⟨k + 1, by omega, by omega, by go_num, by rw [Hs2.out]; exact hown3, hbr3⟩
          case measure => simp [RowKit.intOf]; omega
end Go.Vir
