/- The reference's ends, Fits, Behind, Ahead: the walks. -/
import Derived.Test.YtpjhjjkkbbmnjaaGreatDoorRfB
import Derived.Test.YtpjhjjkkbbmnjaaGreatDoorSub
import Derived.Deep.RegionHeld3
namespace Go.Vir
open Go Go.RowKit Go.Proofs Go.Shelf
attribute [local go_sem] Oper.semAt_some

set_option maxRecDepth 100000 in
set_option maxHeartbeats 1000000 in
theorem ref_ends (st : Bool) (Ai B : Option Addr) (m cm n c : Nat) (xs : List (Int × Int)) (zs : List Int) (a : Nat) (w : World) (hx : Prs w w.heap.size Ai m xs) (hcm : m ≤ cm) (hz : Ints w w.heap.size B n zs) (hm : m ≤ 1000) (hn : n ≤ 1000) (ha : a ≤ n)
    (hr : ∀ x ∈ xs, 0 ≤ x.2 ∧ x.2 ≤ 2) :
    Calls Tryz.prog 70 #[.agg #[.bool st, .slice Ai m cm], .slice B n c, .int .i64 (a : Int)] w fun e w' => RchEnd n (reachL zs xs fun i => i == a) e w' ∧ Below w.heap.size w w' := by
  obtain ⟨i0, hi0, hz0, hz1, hz2⟩ := info_parts bool_info
  have hcall := fun W (hW : Below w.heap.size w W) g (hg : g < W.heap.size) (hF : ∀ j, j ≤ n → W.cell? ⟨g, 0 + j, none⟩ = some (.bool (j == a))) =>
    ref_reach zs xs Ai B m cm n c g 0 (n + 1) (fun i => i == a) W ((hx.below hW).more hW.size) hcm ((hz.below hW).more hW.size) hm hn hr hg hF
  have Hcall := Lib.hid hcall
  clear hcall hx hz hr
  go_enter Tryz.func70, Tryz.ntmps70
  go_wp2_with (at_make; refine wpList_make_full _ rfl (.tmp 10) (.tmp 10) 92 rfl w.heap.size 4 i0 (.bool false) 1 Tryz.underlying92 hi0 hz0 hz1 .i64 .i64 ((n : Int) + 1) ((n : Int) + 1) (n + 1) rfl rfl (by omega) (by omega) (by rw [hz2]; omega) (by simp only [maxLen]; omega) (by simp) ?_; intro w1 hown1 hgrow1; have d1 := made_bls hown1; simp only [World.size_alloc] at d1; have f1 := frozen_blk d1 a; have c1 := cell_blk d1 a; rw [blsA_get (by omega)] at c1; have b0 : w1.heap[w.heap.size]? = some (.cells #[.bool st, .slice Ai m cm] 24 (0, 0)) := (hgrow1.block _ (by simp) (by simp)).trans (heap_new rfl); have b1 := cell_blk b0 1; simp only [List.getElem?_toArray, List.getElem?_cons_zero, List.getElem?_cons_succ] at b1)
  have hb1 : Below w.heap.size w w1 := ((Below.refl _ w).alloc (Nat.le_refl _) _).grown hgrow1 (by simp) (fun g hg => by cases hg)
  have hb2 : Below w.heap.size w (w1.setCell ⟨w.heap.size + 1, a, none⟩ (.bool true)) := hb1.setCell (p := ⟨w.heap.size + 1, a, none⟩) (by simp) _
  have hlt : w.heap.size + 1 < (w1.setCell ⟨w.heap.size + 1, a, none⟩ (.bool true)).heap.size := by
    have := (Array.getElem?_eq_some_iff.1 d1).1
    simpa [World.setCell] using this
  have hF : ∀ j, j ≤ n → (w1.setCell ⟨w.heap.size + 1, a, none⟩ (.bool true)).cell? ⟨w.heap.size + 1, 0 + j, none⟩ = some (.bool (j == a)) := fun j hj => by
    have := cell_blk (setCell_blkB (j := a) d1 true) j
    rw [blsA_get (by omega)] at this
    rw [Nat.zero_add, this]
    by_cases e : j = a <;> simp [e]
  have hc := Hcall.out _ hb2 _ hlt hF
  have Hc := Lib.hid hc
  clear hc hF d1 f1 c1 b0 b1 hown1 hgrow1 hb1
  refine Hc.out.mono ?_
  rintro e w3 ⟨⟨gb, go, gc, rfl, hg, hgc⟩, hb3⟩
  have Hgc := Lib.hid hgc
  clear hgc
  go_wp2_with fail
  go_ret
  exact ⟨⟨gb, go, gc, rfl, hg, Hgc.out⟩, hb2.trans (hb3.mono hb2.size)⟩

set_option maxHeartbeats 1000000 in
theorem ref_Fits (st : Bool) (Ai A : Option Addr) (m ci n c : Nat) (xs : List (Int × Int)) (zs : List Int) (w : World) (hx : Prs w w.heap.size Ai m xs) (hci : m ≤ ci) (hz : Ints w w.heap.size A n zs) (hm : m ≤ 1000) (hn : n ≤ 1000) :
    Calls Tryz.prog 26 #[.agg #[.bool st, .slice Ai m ci], .slice A n c] w fun e w' => e = .returned (.bool (fitsB xs zs)) ∧ Below w.heap.size w w' := by
  have hlen := hz.len
  have hright := fun W (hW : Below w.heap.size w W) => ref_Right9 st Ai m ci xs 32 W ((hx.below hW).more hW.size) (by omega)
  have Hright := Lib.hid hright
  have Hlen := Lib.hid hlen
  clear hright hlen
  rcases hp : patB 32 xs with _ | _
  · have hf : fitsB xs zs = false := by simp [fitsB, hp]
    rw [hf]
    clear hf
    go_enter Tryz.func26, Tryz.ntmps26
    go_wp2_with fail
    refine (Hright.out _ (by go_grown)).mono ?_
    rintro e w1 ⟨rfl, hb1⟩
    rw [hp]
    have hb1' : Below w.heap.size w w1 := Below.trans (by go_grown) (hb1.mono (by simp))
    clear hb1
    go_wp2_with fail
    go_ret
    exact ⟨rfl, hb1'⟩
  · have hends := fun W (hW : Below w.heap.size w W) => ref_ends st Ai A m ci n c xs zs 0 W ((hx.below hW).more hW.size) hci ((hz.below hW).more hW.size) hm hn (Nat.zero_le _) (patB_items hp).2
    have hel : reachL zs xs (fun i => i == 0) n = fitsB xs zs := by
      rw [reach_one zs xs (patB_items hp).2 0 n (by rw [Hlen.out]; exact Nat.le_refl _), ← Hlen.out, seg_all_of, fitsB, hp]; simp
    have Hends := Lib.hid hends
    have Hel := Lib.hid hel
    clear hends hel
    go_enter Tryz.func26, Tryz.ntmps26
    go_wp2_with fail
    refine (Hright.out _ (by go_grown)).mono ?_
    rintro e w1 ⟨rfl, hb1⟩
    rw [hp]
    have hb1' : Below w.heap.size w w1 := Below.trans (by go_grown) (hb1.mono (by simp))
    have k0 : w1.cell? ⟨w.heap.size, 0, none⟩ = some (.bool st) := by rw [cellOf hb1 (by simp)]; simp
    have k1 : w1.cell? ⟨w.heap.size, 1, none⟩ = some (.slice Ai m ci) := by rw [cellOf hb1 (by simp)]; simp
    clear hb1
    go_wp2_with fail
    refine (Hends.out _ hb1').mono ?_
    rintro e w2 ⟨⟨gb, go, gc, rfl, hg, hgc⟩, hb2⟩
    have hgn := hgc n (Nat.le_refl _)
    rw [Hel.out] at hgn
    have hb3 := hb1'.trans (hb2.mono hb1'.size)
    clear hgc hb2 hb1' k0 k1
    go_wp2_with fail
    go_ret
    exact ⟨rfl, hb3⟩

theorem ahead_ref {st : Bool} {xs : List (Int × Int)} {zs : List Int} {k : Nat} (hp : patB 32 xs = true) (hk : k ≤ zs.length) (hs : (st && decide (0 < k)) = false) :
    aheadB st xs zs (k : Int) = (List.range (zs.length + 1)).any fun j => decide (k ≤ j) && reachL zs xs (fun i => i == k) j := by
  have h1 : (st && decide ((0 : Int) < k)) = false := by
    rw [← hs]; congr 1; rw [decide_eq_decide]; omega
  have h2 : (k : Int) ≤ (zs.length : Int) := by omega
  simp only [aheadB, hp, h1, Int.toNat_natCast]
  simp only [h2, Int.natCast_nonneg, decide_true, Bool.true_and, Bool.not_false]
  rw [Bool.eq_iff_iff]
  simp only [List.any_eq_true, List.mem_range, Bool.and_eq_true, decide_eq_true_eq]
  constructor
  · rintro ⟨j, hj, a, b⟩; exact ⟨j, hj, a, by rw [reach_one zs xs (patB_items hp).2 k j (by omega)]; simp [a, b]⟩
  · rintro ⟨j, hj, a, b⟩
    rw [reach_one zs xs (patB_items hp).2 k j (by omega)] at b
    simp [a] at b
    exact ⟨j, hj, a, b⟩

set_option maxRecDepth 100000 in
set_option maxHeartbeats 2000000 in
theorem ref_Ahead (st : Bool) (Ai A : Option Addr) (m ci n c : Nat) (xs : List (Int × Int)) (zs : List Int) (a : Int) (w : World) (hx : Prs w w.heap.size Ai m xs) (hci : m ≤ ci) (hz : Ints w w.heap.size A n zs) (hm : m ≤ 1000) (hn : n ≤ 1000) :
    Calls Tryz.prog 30 #[.agg #[.bool st, .slice Ai m ci], .slice A n c, .int .i64 a] w fun e w' => e = .returned (.bool (aheadB st xs zs a)) ∧ Below w.heap.size w w' := by
  have hlen := hz.len
  have hright := fun W (hW : Below w.heap.size w W) => ref_Right9 st Ai m ci xs 32 W ((hx.below hW).more hW.size) (by omega)
  have Hright := Lib.hid hright
  have Hlen := Lib.hid hlen
  clear hright hlen
  rcases hp : patB 32 xs with _ | _
  · have hf : aheadB st xs zs a = false := by simp [aheadB, hp]
    rw [hf]
    clear hf
    go_enter Tryz.func30, Tryz.ntmps30
    go_wp2_with fail
    refine (Hright.out _ (by go_grown)).mono ?_
    rintro e w1 ⟨rfl, hb1⟩
    rw [hp]
    have hb1' : Below w.heap.size w w1 := Below.trans (by go_grown) (hb1.mono (by simp))
    clear hb1
    go_wp2_with fail
    go_ret
    exact ⟨rfl, hb1'⟩
  · by_cases hgood : 0 ≤ a ∧ a ≤ n
    · obtain ⟨k, rfl⟩ := Int.eq_ofNat_of_zero_le hgood.1
      have hkn : k ≤ n := by omega
      clear hgood
      rcases hs : (st && decide (0 < k)) with _ | _
      · have hends := fun W (hW : Below w.heap.size w W) => ref_ends st Ai A m ci n c xs zs k W ((hx.below hW).more hW.size) hci ((hz.below hW).more hW.size) hm hn hkn (patB_items hp).2
        have hel := ahead_ref (zs := zs) hp (by rw [Hlen.out]; exact hkn) hs
        rw [Hlen.out] at hel
        have Hends := Lib.hid hends
        have Hel := Lib.hid hel
        clear hends hel
        have hcase : st = false ∨ (st = true ∧ k = 0) := by
          rcases st with _ | _
          · exact .inl rfl
          · right; simp at hs; exact ⟨rfl, hs⟩
        clear hs
        rcases hcase with rfl | ⟨rfl, rfl⟩
        · generalize aheadB false xs zs (k : Int) = V at Hel ⊢
          generalize reachL zs xs (fun i => i == k) = R at Hends Hel
          go_enter Tryz.func30, Tryz.ntmps30
          go_wp2_with fail
          refine (Hright.out _ (by go_grown)).mono ?_
          rintro e w1 ⟨rfl, hb1⟩
          rw [hp]
          have hb1' : Below w.heap.size w w1 := Below.trans (by go_grown) (hb1.mono (by simp))
          have k0 := (cellOf (o := 0) hb1 (show w.heap.size < _ by simp)).trans (cell_blk (heap_new rfl) 0)
          have k1 := (cellOf (o := 1) hb1 (show w.heap.size < _ by simp)).trans (cell_blk (heap_new rfl) 1)
          simp only [List.getElem?_toArray, List.getElem?_cons_zero, List.getElem?_cons_succ] at k0 k1
          clear hb1
          go_wp2_with fail
          refine (Hends.out _ hb1').mono ?_
          rintro e w2 ⟨⟨gb, go, gc, rfl, hg, hgc⟩, hb2⟩
          have hb3 := hb1'.trans (hb2.mono hb1'.size)
          have Hgc := Lib.hid hgc
          clear hgc hb2 hb1' k0 k1
          go_wp2_with fail
          simp only [decide_eq_false (show ¬ ((k : Int) < 0) by omega)]
          clear Hends Hright
          go_loop [8] (fun v => ∃ j : Nat, j ≤ n + 1 ∧ v = .int .i64 (j : Int) ∧ ((List.range j).any fun i => decide (k ≤ i) && R i) = false ∧ k ≤ j) (fun v => n + 1 - (RowKit.intOf v).toNat)
          case atStart =>
            refine ⟨k, by omega, rfl, ?_, Nat.le_refl _⟩
            rw [List.any_eq_false]
            intro i hi
            have := List.mem_range.1 hi
            simp; omega
          case round =>
            obtain ⟨j, hj, rfl, hno, hkj⟩ := hrel
            have Hno := Lib.hid hno
            clear hno
            rcases Nat.lt_or_ge n j with hge | hle
            · have hjn : j = n + 1 := by omega
              subst hjn
              go_wp2_with fail
              go_ret
              exact ⟨ret_bool (Hno.out.symm.trans Hel.out.symm), hb3⟩
            · have hgj := Hgc.out j hle
              have hst : ((List.range (j + 1)).any fun i => decide (k ≤ i) && R i) = R j := by
                rw [List.range_succ, List.any_append, Hno.out]; simp [hkj]
              have Hst := Lib.hid hst
              clear hst
              rcases hR : R j with _ | _
              · rw [hR] at hgj Hst
                clear hR
                go_wp2_with fail
                go_round
                case rel => exact ⟨j + 1, by omega, by go_num, Hst.out, by omega⟩
                case measure => simp [RowKit.intOf]; omega
              · have hall : ((List.range (n + 1)).any fun i => decide (k ≤ i) && R i) = true := by
                  rw [List.any_eq_true]; exact ⟨j, List.mem_range.2 (by omega), by simp [hR, hkj]⟩
                have Hall := Lib.hid hall
                rw [hR] at hgj
                clear hR hall
                go_wp2_with fail
                go_ret
                exact ⟨ret_bool (Hall.out.symm.trans Hel.out.symm), hb3⟩
        · generalize aheadB true xs zs ((0 : Nat) : Int) = V at Hel ⊢
          generalize reachL zs xs (fun i => i == 0) = R at Hends Hel
          go_enter Tryz.func30, Tryz.ntmps30
          go_wp2_with fail
          refine (Hright.out _ (by go_grown)).mono ?_
          rintro e w1 ⟨rfl, hb1⟩
          rw [hp]
          have hb1' : Below w.heap.size w w1 := Below.trans (by go_grown) (hb1.mono (by simp))
          have k0 := (cellOf (o := 0) hb1 (show w.heap.size < _ by simp)).trans (cell_blk (heap_new rfl) 0)
          have k1 := (cellOf (o := 1) hb1 (show w.heap.size < _ by simp)).trans (cell_blk (heap_new rfl) 1)
          simp only [List.getElem?_toArray, List.getElem?_cons_zero, List.getElem?_cons_succ] at k0 k1
          clear hb1
          go_wp2_with fail
          refine (Hends.out _ hb1').mono ?_
          rintro e w2 ⟨⟨gb, go, gc, rfl, hg, hgc⟩, hb2⟩
          have hb3 := hb1'.trans (hb2.mono hb1'.size)
          have Hgc := Lib.hid hgc
          clear hgc hb2 hb1' k0 k1
          go_wp2_with fail
          simp only [decide_eq_false (show ¬ ((n : Int) < 0) by omega)]
          clear Hends Hright
          go_loop [8] (fun v => ∃ j : Nat, j ≤ n + 1 ∧ v = .int .i64 (j : Int) ∧ ((List.range j).any fun i => decide (0 ≤ i) && R i) = false ∧ 0 ≤ j) (fun v => n + 1 - (RowKit.intOf v).toNat)
          case atStart =>
            refine ⟨0, by omega, rfl, ?_, Nat.le_refl _⟩
            rw [List.any_eq_false]
            intro i hi
            have := List.mem_range.1 hi
            simp; omega
          case round =>
            obtain ⟨j, hj, rfl, hno, hkj⟩ := hrel
            have Hno := Lib.hid hno
            clear hno
            rcases Nat.lt_or_ge n j with hge | hle
            · have hjn : j = n + 1 := by omega
              subst hjn
              go_wp2_with fail
              go_ret
              exact ⟨ret_bool (Hno.out.symm.trans Hel.out.symm), hb3⟩
            · have hgj := Hgc.out j hle
              have hst : ((List.range (j + 1)).any fun i => decide (0 ≤ i) && R i) = R j := by
                rw [List.range_succ, List.any_append, Hno.out]; simp [hkj]
              have Hst := Lib.hid hst
              clear hst
              rcases hR : R j with _ | _
              · rw [hR] at hgj Hst
                clear hR
                go_wp2_with fail
                go_round
                case rel => exact ⟨j + 1, by omega, by go_num, Hst.out, by omega⟩
                case measure => simp [RowKit.intOf]; omega
              · have hall : ((List.range (n + 1)).any fun i => decide (0 ≤ i) && R i) = true := by
                  rw [List.any_eq_true]; exact ⟨j, List.mem_range.2 (by omega), by simp [hR, hkj]⟩
                have Hall := Lib.hid hall
                rw [hR] at hgj
                clear hR hall
                go_wp2_with fail
                go_ret
                exact ⟨ret_bool (Hall.out.symm.trans Hel.out.symm), hb3⟩
      · have hs2 : st = true ∧ 0 < k := by simpa using hs
        obtain ⟨rfl, hk0⟩ := hs2
        have hf : aheadB true xs zs k = false := by simp [aheadB, hk0]
        rw [hf]
        clear hf hs
        go_enter Tryz.func30, Tryz.ntmps30
        go_wp2_with fail
        refine (Hright.out _ (by go_grown)).mono ?_
        rintro e w1 ⟨rfl, hb1⟩
        rw [hp]
        have hb1' : Below w.heap.size w w1 := Below.trans (by go_grown) (hb1.mono (by simp))
        have k0 : w1.cell? ⟨w.heap.size, 0, none⟩ = some (.bool true) := by rw [cellOf hb1 (by simp)]; simp
        clear hb1
        go_wp2_with fail
        go_ret
        exact ⟨rfl, hb1'⟩
    · have hf : aheadB st xs zs a = false := by
        have h1 : (decide (0 ≤ a) && decide (a ≤ zs.length)) = false := by
          rw [Hlen.out]
          rw [← Bool.not_eq_true, Bool.and_eq_true, decide_eq_true_eq, decide_eq_true_eq]; exact hgood
        rw [aheadB, ← Bool.and_assoc (decide (0 ≤ a)), h1]; simp
      rw [hf]
      clear hf
      have hg : a < 0 ∨ 0 ≤ a ∧ (n : Int) < a := by omega
      clear hgood
      rcases hg with hg | ⟨hg0, hg⟩
      all_goals
        go_enter Tryz.func30, Tryz.ntmps30
        go_wp2_with fail
        refine (Hright.out _ (by go_grown)).mono ?_
        rintro e w1 ⟨rfl, hb1⟩
        rw [hp]
        have hb1' : Below w.heap.size w w1 := Below.trans (by go_grown) (hb1.mono (by simp))
        clear hb1
        go_wp2_with fail
        go_ret
        exact ⟨rfl, hb1'⟩

theorem behind_ref {st : Bool} {xs : List (Int × Int)} {zs : List Int} {k : Nat} (hp : patB 32 xs = true) (hk : k ≤ zs.length) :
    behindB st xs zs (k : Int) = (List.range (if st then 1 else k + 1)).any fun i => reachL (zs.take k) xs (fun j => j == i) k := by
  have h2 : (k : Int) ≤ (zs.length : Int) := by omega
  simp only [behindB, hp, Int.toNat_natCast, h2, Int.natCast_nonneg, decide_true, Bool.true_and]
  rw [Bool.eq_iff_iff]
  simp only [List.any_eq_true, List.mem_range]
  have key : ∀ i, i < (if st then 1 else k + 1) → reachL (zs.take k) xs (fun j => j == i) k = mtB xs (seg zs i k) := fun i hi => by
    have hik : i ≤ k := by
      cases st
      · simp at hi; omega
      · simp at hi; omega
    rw [reach_one _ xs (patB_items hp).2 i k (by rw [List.length_take]; omega), seg_of_take, decide_eq_true hik, Bool.true_and]
  constructor
  · rintro ⟨i, hi, a⟩; exact ⟨i, hi, by rw [key i hi]; exact a⟩
  · rintro ⟨i, hi, a⟩; exact ⟨i, hi, by rw [← key i hi]; exact a⟩

set_option maxRecDepth 100000 in
set_option maxHeartbeats 4000000 in
theorem ref_Behind (st : Bool) (Ai A : Option Addr) (m ci n c : Nat) (xs : List (Int × Int)) (zs : List Int) (a : Int) (w : World) (hx : Prs w w.heap.size Ai m xs) (hci : m ≤ ci) (hz : Ints w w.heap.size A n zs) (hm : m ≤ 1000) (hn : n ≤ 1000) (hc : n ≤ c) :
    Calls Tryz.prog 28 #[.agg #[.bool st, .slice Ai m ci], .slice A n c, .int .i64 a] w fun e w' => e = .returned (.bool (behindB st xs zs a)) ∧ Below w.heap.size w w' := by
  have hlen := hz.len
  have hright := fun W (hW : Below w.heap.size w W) => ref_Right9 st Ai m ci xs 32 W ((hx.below hW).more hW.size) (by omega)
  have Hright := Lib.hid hright
  have Hlen := Lib.hid hlen
  clear hright hlen
  rcases hp : patB 32 xs with _ | _
  · have hf : behindB st xs zs a = false := by simp [behindB, hp]
    rw [hf]
    clear hf
    go_enter Tryz.func28, Tryz.ntmps28
    go_wp2_with fail
    refine (Hright.out _ (by go_grown)).mono ?_
    rintro e w1 ⟨rfl, hb1⟩
    rw [hp]
    have hb1' : Below w.heap.size w w1 := Below.trans (by go_grown) (hb1.mono (by simp))
    clear hb1
    go_wp2_with fail
    go_ret
    exact ⟨rfl, hb1'⟩
  · by_cases hgood : 0 ≤ a ∧ a ≤ n
    · obtain ⟨k, rfl⟩ := Int.eq_ofNat_of_zero_le hgood.1
      have hkn : k ≤ n := by omega
      clear hgood
      have hends := fun i (hi : i ≤ k) W (hW : Below w.heap.size w W) => ref_ends st Ai A m ci k c xs (zs.take k) i W ((hx.below hW).more hW.size) hci (((hz.below hW).more hW.size).take k hkn) hm (by omega) hi (patB_items hp).2
      have hel := behind_ref (st := st) (zs := zs) hp (by rw [Hlen.out]; exact hkn)
      generalize behindB st xs zs (k : Int) = V at hel ⊢
      have Hends := Lib.hid hends
      have Hel := Lib.hid hel
      have hkc : k ≤ c := by omega
      have s2 : (k : Int) ≤ (n : Int) := by omega
      have s3 : (k : Int) ≤ (c : Int) := by omega
      clear hends hel hx hz
      go_enter Tryz.func28, Tryz.ntmps28
      go_wp2_with fail
      refine (Hright.out _ (by go_grown)).mono ?_
      rintro e w1 ⟨rfl, hb1⟩
      rw [hp]
      have hb1' : Below w.heap.size w w1 := Below.trans (by go_grown) (hb1.mono (by simp))
      have k0 := (cellOf (o := 0) hb1 (show w.heap.size < _ by simp)).trans (cell_blk (heap_new rfl) 0)
      have k1 := (cellOf (o := 1) hb1 (show w.heap.size < _ by simp)).trans (cell_blk (heap_new rfl) 1)
      have hlt : w.heap.size < w1.heap.size := by have := hb1.size; simp at this; omega
      simp only [List.getElem?_toArray, List.getElem?_cons_zero, List.getElem?_cons_succ] at k0 k1
      clear hb1
      go_wp2_with fail
      simp only [decide_eq_false (show ¬ ((k : Int) < 0) by omega), decide_eq_false (show ¬ (n < k) by omega), Bool.false_or]
      go_loopw [7] (fun v wr => ∃ i : Nat, i ≤ k + 1 ∧ v = .int .i64 (i : Int) ∧ ((List.range i).any fun i => reachL (zs.take k) xs (fun j => j == i) k) = false ∧ (st = true → i = 0) ∧ Below w1.heap.size w1 wr) (fun v _ => k + 1 - (RowKit.intOf v).toNat)
      case atStart => exact ⟨0, by omega, rfl, rfl, fun _ => rfl, Below.refl _ _⟩
      case round =>
        obtain ⟨i, hi, rfl, hno, hst, hbr⟩ := hrel
        have hb4 : Below w.heap.size w wr := hb1'.trans (hbr.mono hb1'.size)
        have Hno := Lib.hid hno
        have Hst := Lib.hid hst
        clear hno hst
        have c0 := (cellOf hbr hlt).trans k0
        have c1 := (cellOf hbr hlt).trans k1
        rcases Nat.lt_or_ge k i with hge | hle
        · have hik : i = k + 1 := by omega
          have hst2 : st = false := by
            rcases st with _ | _
            · rfl
            · have := Hst.out rfl; omega
          have hV : V = false := by rw [Hel.out, hst2]; simp only [Bool.false_eq_true, if_false]; rw [← hik]; exact Hno.out
          have HV := Lib.hid hV
          subst hik
          clear hV hst2
          go_wp2_with fail
          go_ret
          exact ⟨ret_bool HV.out.symm, hb4⟩
        · have hin := Hends.out i hle wr.drew hb4.drew
          have Hin := Lib.hid hin
          clear hin
          go_upto_region 6 with fail
          refine wp_region_noPanic ?_
          refine wp_region_held_drew (S := (fun V => V.cell? ⟨w.heap.size, 0, none⟩ = some (.bool st) ∧ V.cell? ⟨w.heap.size, 1, none⟩ = some (.slice Ai m ci))) (by kernel_rfl) ⟨c0, c1⟩ (fun hHeld => ?_)
          refine wpAnyH_take (i := 0) (v := .agg #[.bool st, .slice Ai m ci]) rfl (by kernel_rfl) (by kernel_rfl) (by kernel_rfl) (fun _ _ _ h => h) (.inl ⟨by rfl, fun V hV => by obtain ⟨c0, c1⟩ := hV; go_simp⟩) hHeld ?_
          try simp only [Act.put, List.setIfInBounds_toArray, List.set_cons_zero, List.set_cons_succ]
          refine wpAnyH_take (i := 1) (v := .slice A n c) rfl (by kernel_rfl) (by kernel_rfl) (by kernel_rfl) (fun _ _ _ h => h) (.inl ⟨by rfl, fun V hV => by obtain ⟨c0, c1⟩ := hV; go_simp⟩) hHeld ?_
          try simp only [Act.put, List.setIfInBounds_toArray, List.set_cons_zero, List.set_cons_succ]
          refine wpAnyH_take (i := 2) (v := .int .i64 (k : Int)) rfl (by kernel_rfl) (by kernel_rfl) (by kernel_rfl) (fun _ _ _ h => h) (.inl ⟨by rfl, fun V hV => by obtain ⟨c0, c1⟩ := hV; go_simp⟩) hHeld ?_
          try simp only [Act.put, List.setIfInBounds_toArray, List.set_cons_zero, List.set_cons_succ]
          refine wpAnyH_take (i := 3) (v := .slice A k c) rfl (by kernel_rfl) (by kernel_rfl) (by kernel_rfl) (fun _ _ _ h => h) (.inl ⟨by rfl, fun V hV => by obtain ⟨c0, c1⟩ := hV; go_simp⟩) hHeld ?_
          try simp only [Act.put, List.setIfInBounds_toArray, List.set_cons_zero, List.set_cons_succ]
          refine wpAnyH_take (i := 4) (v := .int .i64 (i : Int)) rfl (by kernel_rfl) (by kernel_rfl) (by kernel_rfl) (fun _ _ _ h => h) (.inl ⟨by rfl, fun V hV => by obtain ⟨c0, c1⟩ := hV; go_simp⟩) hHeld ?_
          try simp only [Act.put, List.setIfInBounds_toArray, List.set_cons_zero, List.set_cons_succ]
          refine wpAnyH_take (i := 6) (v := .int .i64 (k : Int)) rfl (by kernel_rfl) (by kernel_rfl) (by kernel_rfl) (fun _ _ _ h => h) (.inl ⟨by rfl, fun V hV => by obtain ⟨c0, c1⟩ := hV; go_simp⟩) hHeld ?_
          try simp only [Act.put, List.setIfInBounds_toArray, List.set_cons_zero, List.set_cons_succ]
          refine wpAnyH_ready (rs := [5]) (by kernel_rfl) (by simp) ?_
          refine AllReadyH.cons rfl (fun K hK => ?_) AllReadyH.nil
          go_simp
          refine Hin.out.mono ?_
          rintro e w3 ⟨⟨gb, go, gc, rfl, hg, hgc⟩, hb5⟩
          have hb6 : Below w1.heap.size w1 w3 := hbr.drew.trans (hb5.mono hbr.size)
          have d0 := (cellOf hb6 hlt).trans k0
          have d1 := (cellOf hb6 hlt).trans k1
          have hgk := hgc k (Nat.le_refl _)
          have hb7 : Below w.heap.size w w3 := hb1'.trans (hb6.mono hb1'.size)
          refine hK.out _ _ ⟨d0, d1⟩ (fun hHeld => ?_)
          clear hK K hgc hb5 c0 c1 hbr hb4
          try simp only [Act.put, List.setIfInBounds_toArray, List.set_cons_zero, List.set_cons_succ]
          refine wpAnyH_take (i := 7) (v := .pointer (some ⟨gb, go + k, none⟩)) rfl (by kernel_rfl) (by kernel_rfl) (by kernel_rfl) (fun _ _ _ h => h) (.inl ⟨by rfl, fun V hV => by obtain ⟨c0, c1⟩ := hV; go_simp; intro hx; omega⟩) hHeld ?_
          try simp only [Act.put, List.setIfInBounds_toArray, List.set_cons_zero, List.set_cons_succ]
          refine wpAnyH_ready (rs := [8]) (by kernel_rfl) (by simp) ?_
          refine AllReadyH.cons rfl (fun K hK => ?_) AllReadyH.nil
          go_simp
          refine hK.out _ _ hHeld (fun hHeld => ?_)
          clear hK K
          try simp only [Act.put, List.setIfInBounds_toArray, List.set_cons_zero, List.set_cons_succ]
          refine wpAnyH_done (by kernel_rfl) ?_ _
          refine NoPanic.normal ?_
          clear hHeld
          rcases hR : reachL (zs.take k) xs (fun j => j == i) k with _ | _
          · have hnx : ((List.range (i + 1)).any fun i => reachL (zs.take k) xs (fun j => j == i) k) = false := by
              rw [List.range_succ, List.any_append, Hno.out]; simp [hR]
            have Hnx := Lib.hid hnx
            clear hnx
            rcases hsv : st with _ | _
            · subst hsv
              go_wp2_with fail
              go_roundw
              case rel => exact ⟨i + 1, by omega, by go_num, Hnx.out, (fun h => by cases h), hb6⟩
              case measure => simp [RowKit.intOf]; omega
            · have hi0 : i = 0 := Hst.out hsv
              have hV : V = false := by
                have := Hnx.out
                rw [hi0] at this
                rw [Hel.out, hsv, if_pos rfl]; exact this
              have HV := Lib.hid hV
              subst hsv
              clear hV hi0 Hst
              go_wp2_with fail
              go_ret
              exact ⟨ret_bool HV.out.symm, hb7⟩
          · have hV : V = true := by
              rw [Hel.out, List.any_eq_true]
              refine ⟨i, List.mem_range.2 ?_, hR⟩
              rcases hsv : st with _ | _
              · simp; omega
              · have := Hst.out hsv; simp; omega
            have HV := Lib.hid hV
            clear hV
            go_wp2_with fail
            go_ret
            exact ⟨ret_bool HV.out.symm, hb7⟩
    · have hf : behindB st xs zs a = false := by
        have h1 : (decide (0 ≤ a) && decide (a ≤ zs.length)) = false := by
          rw [Hlen.out]
          rw [← Bool.not_eq_true, Bool.and_eq_true, decide_eq_true_eq, decide_eq_true_eq]; exact hgood
        rw [behindB, ← Bool.and_assoc (decide (0 ≤ a)), h1]; simp
      rw [hf]
      clear hf
      have hg : a < 0 ∨ 0 ≤ a ∧ (n : Int) < a := by omega
      clear hgood
      rcases hg with hg | ⟨hg0, hg⟩
      all_goals
        go_enter Tryz.func28, Tryz.ntmps28
        go_wp2_with fail
        refine (Hright.out _ (by go_grown)).mono ?_
        rintro e w1 ⟨rfl, hb1⟩
        rw [hp]
        have hb1' : Below w.heap.size w w1 := Below.trans (by go_grown) (hb1.mono (by simp))
        clear hb1
        go_wp2_with fail
        go_ret
        exact ⟨rfl, hb1'⟩
end Go.Vir
