/- The row of RuleSides and its tied card: for every input (under the row's conditions on the listed variables) the law returns true and its arguments read as before. -/
import Derived.Test.YtpjhjjkkbbmnjaaGreatDoorBi
import Derived.Test.YtpjhjjkkbbmnjaaGreatDoorBj
import Derived.Test.YtpjhjjkkbbmnjaaGreatDoorTie
import Derived.Test.YtpjhjjkkbbmnjaaGreatDoorCards
/- viramalaw11: RuleSides. -/
namespace Go.Vir
open Go Go.RowKit Go.Proofs Go.Shelf
attribute [local go_sem] Oper.semAt_some

theorem appB_start {l : List Int} {at_ : Int} {x : RuleV} (h : x.sr = true) : appB l at_ x = false := by simp [appB, ruleOk, h]
theorem appB_sides {l : List Int} {at_ : Int} {x : RuleV} (h : x.sr = false) (h0 : 0 < at_) (h1 : at_ < (l.length : Int)) : appB l at_ x = (behindB x.sl x.xl l at_ && aheadB x.sr x.xr l at_) := by
  unfold appB
  rw [decide_eq_true h0, decide_eq_true h1]
  simp only [Bool.true_and]
  have : ruleOk 32 x = (patB 32 x.xl && patB 32 x.xr) := by simp [ruleOk, h]
  rw [this]
  unfold behindB aheadB
  cases patB 32 x.xl <;> cases patB 32 x.xr <;> simp

set_option maxRecDepth 100000 in
set_option maxHeartbeats 8000000 in
theorem law_sides (A B : Option Addr) (m0 c0 n0 c2 : Nat) (rs0 : List RuleV) (zs0 : List Int) (at_ k : Int) (w : World) (hG : Globs w) (hx : RlsI w w.heap.size A m0 rs0) (hz : Ints w w.heap.size B n0 zs0) (hc2 : n0 ≤ c2) :
    Calls Tryz.prog 8 #[.slice A m0 c0, .slice B n0 c2, .int .i64 at_, .int .i64 k] w fun e w' => e = .returned (.bool true) ∧ Below w.heap.size w w' := by
  go_enter Tryz.func8, Tryz.ntmps8
  go_wp2_with fail
  refine (law11_shown _ hG).mono ?_
  rintro e w1 ⟨rfl, hb1⟩
  have hx1 := (hx.below hb1).more hb1.size
  go_wp2_with fail
  refine (law11_Few A m0 c0 rs0 w1 hx1).mono ?_
  rintro e w2 ⟨⟨A2, m, c, rfl, hm, hmc, hR, hm42⟩, hb2⟩
  have Hm := Lib.hid hm
  clear hm
  have hb3 := hb1.trans (hb2.mono hb1.size)
  have hzW := ((hz.below hb3).more hb3.size).take (min n0 30) (by omega)
  have hn30 : min n0 30 ≤ 30 := by omega
  have hnc : min n0 30 ≤ c2 := by omega
  go_wp2_with fail
  refine (law11_list B n0 c2 w2 hc2).mono ?_
  rintro e w3 ⟨rfl, rfl⟩
  clear hx hx1 hz hb1 hb2
  generalize min n0 30 = n at *
  generalize zs0.take n = zs at *
  generalize fewR rs0 = rs at *
  rcases (show k < 0 ∨ (0 ≤ k ∧ (m : Int) ≤ k) ∨ (0 ≤ k ∧ k < m ∧ at_ ≤ 0) ∨ (0 ≤ k ∧ k < m ∧ 0 < at_ ∧ (n : Int) ≤ at_) ∨ (0 ≤ k ∧ k < m ∧ 0 < at_ ∧ at_ < n) by omega) with h1 | ⟨h1, h2⟩ | ⟨h1, h2, h3⟩ | ⟨h1, h2, h3, h4⟩ | ⟨h1, h2, h3, h4⟩
  · go_wp2_with fail
    go_ret
    exact ⟨rfl, hb3⟩
  · go_wp2_with fail
    go_ret
    exact ⟨rfl, hb3⟩
  · go_wp2_with fail
    go_ret
    exact ⟨rfl, hb3⟩
  · go_wp2_with fail
    go_ret
    exact ⟨rfl, hb3⟩
  · obtain ⟨kk, rfl⟩ := Int.eq_ofNat_of_zero_le h1
    have hkm : kk < m := by omega
    obtain ⟨rb, ro, rfl, hrb, hrc⟩ := hR.at_ (by omega)
    have hkr : kk < rs.length := by rw [← Hm.out]; exact hkm
    obtain ⟨Al, ml, cl, Ar, mr, cr, y0, y1, y2, y3, y4, hM⟩ := hrc kk hkr
    generalize rs[kk] = x at *
    obtain ⟨sl, xl, sr, xr, br⟩ := x
    simp only at y0 y1 y2 y3 y4
    have hlenz := hzW.len
    have Hlenz := Lib.hid hlenz
    clear hrc hlenz
    rcases sr with _ | _
    · have hb4 : Below w.heap.size w (w2.alloc (.cells #[.bool sl, .slice Al ml cl, .bool false, .slice Ar mr cr, .bool br] 50)) := hb3.alloc hb3.size _
      have hXb : (w2.alloc (.cells #[.bool sl, .slice Al ml cl, .bool false, .slice Ar mr cr, .bool br] 50)).heap[w2.heap.size]? = some (.cells #[.bool sl, .slice Al ml cl, .bool false, .slice Ar mr cr, .bool br] 50 (0, 0)) := heap_new rfl
      have hbA : Below w2.heap.size w2 (w2.alloc (.cells #[.bool sl, .slice Al ml cl, .bool false, .slice Ar mr cr, .bool br] 50)) := by go_grown
      have hMW := (hM.below hbA).more hbA.size
      have hzA := (hzW.below hbA).more hbA.size
      go_upto_region 9 with fail
      generalize (w2.alloc (.cells #[.bool sl, .slice Al ml cl, .bool false, .slice Ar mr cr, .bool br] 50)) = W at *
      have hXl := (Array.getElem?_eq_some_iff.1 hXb).1
      have x0 : W.cell? ⟨w2.heap.size, 0, none⟩ = some (.bool sl) := cell_blk hXb 0
      have x1 : W.cell? ⟨w2.heap.size, 1, none⟩ = some (.slice Al ml cl) := cell_blk hXb 1
      have x2 : W.cell? ⟨w2.heap.size, 2, none⟩ = some (.bool false) := cell_blk hXb 2
      have x3 : W.cell? ⟨w2.heap.size, 3, none⟩ = some (.slice Ar mr cr) := cell_blk hXb 3
      have x4 : W.cell? ⟨w2.heap.size, 4, none⟩ = some (.bool br) := cell_blk hXb 4
      have hap := fun V (hV : Below W.heap.size W V) => rule_Applies { sl := sl, xl := xl, sr := false, xr := xr, br := br } Al Ar B ml cl mr cr n c2 zs at_ V ((hMW.below hV).more hV.size) ((hzA.below hV).more hV.size) (by omega) hnc
      have hbe := fun V (hV : Below W.heap.size W V) => pattern_Behind sl Al B ml cl n c2 xl zs at_ V ((hMW.left.below hV).more hV.size) ((hzA.below hV).more hV.size) hMW.lb (by omega) hnc
      have hah := fun V (hV : Below W.heap.size W V) => pattern_Ahead false Ar B mr cr n c2 xr zs at_ V ((hMW.right.below hV).more hV.size) ((hzA.below hV).more hV.size) hMW.rb (by omega)
      rw [appB_sides rfl h3 (by rw [Hlenz.out]; exact h4)] at hap
      simp only [ruleV] at hap
      generalize behindB sl xl zs at_ = bh at hap hbe
      generalize aheadB false xr zs at_ = ah at hap hah
      have Hap := Lib.hid hap
      have Hbe := Lib.hid hbe
      have Hah := Lib.hid hah
      have hv0 : Below W.heap.size W W.drew := (Below.refl _ _).drew
      clear hap hbe hah hMW hzA hbA hM hzW hR y0 y1 y2 y3 y4
      rcases bh with _ | _
      · simp only [Bool.false_and] at Hap
        refine wp_region_noPanic ?_
        refine wp_region_held_drew (S := (fun V => V.cell? ⟨w2.heap.size, 0, none⟩ = some (.bool sl) ∧ V.cell? ⟨w2.heap.size, 1, none⟩ = some (.slice Al ml cl) ∧ V.cell? ⟨w2.heap.size, 2, none⟩ = some (.bool false) ∧ V.cell? ⟨w2.heap.size, 3, none⟩ = some (.slice Ar mr cr) ∧ V.cell? ⟨w2.heap.size, 4, none⟩ = some (.bool br))) (by kernel_rfl) ⟨x0, x1, x2, x3, x4⟩ (fun hHeld => ?_)
        refine wpAnyH_take (i := 0) (v := .bool true) rfl (by kernel_rfl) (by kernel_rfl) (by kernel_rfl) (fun _ _ _ h => h) (.inl ⟨by rfl, fun V hV => by obtain ⟨c0, c1, c2, c3, c4⟩ := hV; go_simp⟩) hHeld ?_
        try simp only [Act.put, List.getElem_toArray, List.getElem_cons_zero, List.setIfInBounds_toArray, List.set_cons_zero, List.set_cons_succ]
        refine wpAnyH_take (i := 1) (v := .bool true) rfl (by kernel_rfl) (by kernel_rfl) (by kernel_rfl) (fun _ _ _ h => h) (.inl ⟨by rfl, fun V hV => by obtain ⟨c0, c1, c2, c3, c4⟩ := hV; go_simp⟩) hHeld ?_
        try simp only [Act.put, List.getElem_toArray, List.getElem_cons_zero, List.getElem_cons_succ, List.setIfInBounds_toArray, List.set_cons_zero, List.set_cons_succ]
        refine wpAnyH_take (i := 2) (v := .agg #[.bool sl, .slice Al ml cl, .bool false, .slice Ar mr cr, .bool br]) rfl (by kernel_rfl) (by kernel_rfl) (by kernel_rfl) (fun _ _ _ h => h) (.inl ⟨by rfl, fun V hV => by obtain ⟨c0, c1, c2, c3, c4⟩ := hV; go_simp⟩) hHeld ?_
        try simp only [Act.put, List.getElem_toArray, List.getElem_cons_zero, List.getElem_cons_succ, List.setIfInBounds_toArray, List.set_cons_zero, List.set_cons_succ]
        refine wpAnyH_take (i := 3) (v := .slice B n c2) rfl (by kernel_rfl) (by kernel_rfl) (by kernel_rfl) (fun _ _ _ h => h) (.inl ⟨by rfl, fun V hV => by obtain ⟨c0, c1, c2, c3, c4⟩ := hV; go_simp⟩) hHeld ?_
        try simp only [Act.put, List.getElem_toArray, List.getElem_cons_zero, List.getElem_cons_succ, List.setIfInBounds_toArray, List.set_cons_zero, List.set_cons_succ]
        refine wpAnyH_take (i := 4) (v := .int .i64 at_) rfl (by kernel_rfl) (by kernel_rfl) (by kernel_rfl) (fun _ _ _ h => h) (.inl ⟨by rfl, fun V hV => by obtain ⟨c0, c1, c2, c3, c4⟩ := hV; go_simp⟩) hHeld ?_
        try simp only [Act.put, List.getElem_toArray, List.getElem_cons_zero, List.getElem_cons_succ, List.setIfInBounds_toArray, List.set_cons_zero, List.set_cons_succ]
        refine wpAnyH_take (i := 6) (v := .pointer (some ⟨w2.heap.size, 0, none⟩)) rfl (by kernel_rfl) (by kernel_rfl) (by kernel_rfl) (fun _ _ _ h => h) (.inl ⟨by rfl, fun V hV => by obtain ⟨c0, c1, c2, c3, c4⟩ := hV; go_simp⟩) hHeld ?_
        try simp only [Act.put, List.getElem_toArray, List.getElem_cons_zero, List.getElem_cons_succ, List.setIfInBounds_toArray, List.set_cons_zero, List.set_cons_succ]
        refine wpAnyH_take (i := 7) (v := .agg #[.bool sl, .slice Al ml cl]) rfl (by kernel_rfl) (by kernel_rfl) (by kernel_rfl) (fun _ _ _ h => h) (.inl ⟨by rfl, fun V hV => by obtain ⟨c0, c1, c2, c3, c4⟩ := hV; go_simp⟩) hHeld ?_
        try simp only [Act.put, List.getElem_toArray, List.getElem_cons_zero, List.getElem_cons_succ, List.setIfInBounds_toArray, List.set_cons_zero, List.set_cons_succ]
        refine wpAnyH_take (i := 8) (v := .slice B n c2) rfl (by kernel_rfl) (by kernel_rfl) (by kernel_rfl) (fun _ _ _ h => h) (.inl ⟨by rfl, fun V hV => by obtain ⟨c0, c1, c2, c3, c4⟩ := hV; go_simp⟩) hHeld ?_
        try simp only [Act.put, List.getElem_toArray, List.getElem_cons_zero, List.getElem_cons_succ, List.setIfInBounds_toArray, List.set_cons_zero, List.set_cons_succ]
        refine wpAnyH_take (i := 9) (v := .int .i64 at_) rfl (by kernel_rfl) (by kernel_rfl) (by kernel_rfl) (fun _ _ _ h => h) (.inl ⟨by rfl, fun V hV => by obtain ⟨c0, c1, c2, c3, c4⟩ := hV; go_simp⟩) hHeld ?_
        try simp only [Act.put, List.getElem_toArray, List.getElem_cons_zero, List.getElem_cons_succ, List.setIfInBounds_toArray, List.set_cons_zero, List.set_cons_succ]
        refine wpAnyH_ready (rs := [5]) (by kernel_rfl) (by simp) ?_
        refine AllReadyH.cons rfl (fun K hK => ?_) AllReadyH.nil
        go_simp
        refine (Hap.out _ hv0).mono ?_
        rintro e v1 ⟨rfl, hc⟩
        have hv1 : Below W.heap.size W v1 := hv0.trans (hc.mono hv0.size)
        clear hc
        have qv10 := (cellOf hv1 hXl).trans x0
        have qv11 := (cellOf hv1 hXl).trans x1
        have qv12 := (cellOf hv1 hXl).trans x2
        have qv13 := (cellOf hv1 hXl).trans x3
        have qv14 := (cellOf hv1 hXl).trans x4
        refine hK.out _ _ ⟨qv10, qv11, qv12, qv13, qv14⟩ (fun hHeld => ?_)
        clear hK K
        try simp only [Act.put, List.getElem_toArray, List.getElem_cons_zero, List.getElem_cons_succ, List.setIfInBounds_toArray, List.set_cons_zero, List.set_cons_succ]
        refine wpAnyH_ready (rs := [10]) (by kernel_rfl) (by simp) ?_
        refine AllReadyH.cons rfl (fun K hK => ?_) AllReadyH.nil
        go_simp
        refine (Hbe.out _ hv1).mono ?_
        rintro e v2 ⟨rfl, hc⟩
        have hv2 : Below W.heap.size W v2 := hv1.trans (hc.mono hv1.size)
        clear hc
        have qv20 := (cellOf hv2 hXl).trans x0
        have qv21 := (cellOf hv2 hXl).trans x1
        have qv22 := (cellOf hv2 hXl).trans x2
        have qv23 := (cellOf hv2 hXl).trans x3
        have qv24 := (cellOf hv2 hXl).trans x4
        refine hK.out _ _ ⟨qv20, qv21, qv22, qv23, qv24⟩ (fun hHeld => ?_)
        clear hK K
        try simp only [Act.put, List.getElem_toArray, List.getElem_cons_zero, List.getElem_cons_succ, List.setIfInBounds_toArray, List.set_cons_zero, List.set_cons_succ]
        refine wpAnyH_take (i := 11) (v := .bool false) rfl (by kernel_rfl) (by kernel_rfl) (by kernel_rfl) (fun _ _ _ h => h) (.inl ⟨by rfl, fun V hV => by obtain ⟨c0, c1, c2, c3, c4⟩ := hV; go_simp⟩) hHeld ?_
        try simp only [Act.put, List.getElem_toArray, List.getElem_cons_zero, List.getElem_cons_succ, List.setIfInBounds_toArray, List.set_cons_zero, List.set_cons_succ]
        refine wpAnyH_take (i := 12) (v := undef) rfl (by kernel_rfl) (by kernel_rfl) (by kernel_rfl) (fun _ _ _ h => h) (.inr ⟨by rfl, rfl⟩) hHeld ?_
        try simp only [Act.put, List.getElem_toArray, List.getElem_cons_zero, List.getElem_cons_succ, List.setIfInBounds_toArray, List.set_cons_zero, List.set_cons_succ]
        refine wpAnyH_take (i := 13) (v := undef) rfl (by kernel_rfl) (by kernel_rfl) (by kernel_rfl) (fun _ _ _ h => h) (.inr ⟨by rfl, rfl⟩) hHeld ?_
        try simp only [Act.put, List.getElem_toArray, List.getElem_cons_zero, List.getElem_cons_succ, List.setIfInBounds_toArray, List.set_cons_zero, List.set_cons_succ]
        refine wpAnyH_take (i := 14) (v := undef) rfl (by kernel_rfl) (by kernel_rfl) (by kernel_rfl) (fun _ _ _ h => h) (.inr ⟨by rfl, rfl⟩) hHeld ?_
        try simp only [Act.put, List.getElem_toArray, List.getElem_cons_zero, List.getElem_cons_succ, List.setIfInBounds_toArray, List.set_cons_zero, List.set_cons_succ]
        refine wpAnyH_take (i := 15) (v := undef) rfl (by kernel_rfl) (by kernel_rfl) (by kernel_rfl) (fun _ _ _ h => h) (.inr ⟨by rfl, rfl⟩) hHeld ?_
        try simp only [Act.put, List.getElem_toArray, List.getElem_cons_zero, List.getElem_cons_succ, List.setIfInBounds_toArray, List.set_cons_zero, List.set_cons_succ]
        refine wpAnyH_ready (rs := [16]) (by kernel_rfl) (by simp) ?_
        refine AllReadyH.cons rfl (fun K hK => ?_) AllReadyH.nil
        go_simp
        refine hK.out _ _ hHeld (fun hHeld => ?_)
        clear hK K
        try simp only [Act.put, List.getElem_toArray, List.getElem_cons_zero, List.getElem_cons_succ, List.setIfInBounds_toArray, List.set_cons_zero, List.set_cons_succ]
        refine wpAnyH_take (i := 17) (v := .bool false) rfl (by kernel_rfl) (by kernel_rfl) (by kernel_rfl) (fun _ _ _ h => h) (.inl ⟨by rfl, fun V hV => by obtain ⟨c0, c1, c2, c3, c4⟩ := hV; go_simp⟩) hHeld ?_
        try simp only [Act.put, List.getElem_toArray, List.getElem_cons_zero, List.getElem_cons_succ, List.setIfInBounds_toArray, List.set_cons_zero, List.set_cons_succ]
        refine wpAnyH_take (i := 18) (v := .bool true) rfl (by kernel_rfl) (by kernel_rfl) (by kernel_rfl) (fun _ _ _ h => h) (.inl ⟨by rfl, fun V hV => by obtain ⟨c0, c1, c2, c3, c4⟩ := hV; go_simp⟩) hHeld ?_
        try simp only [Act.put, List.getElem_toArray, List.getElem_cons_zero, List.getElem_cons_succ, List.setIfInBounds_toArray, List.set_cons_zero, List.set_cons_succ]
        refine wpAnyH_take (i := 19) (v := .bool true) rfl (by kernel_rfl) (by kernel_rfl) (by kernel_rfl) (fun _ _ _ h => h) (.inl ⟨by rfl, fun V hV => by obtain ⟨c0, c1, c2, c3, c4⟩ := hV; go_simp⟩) hHeld ?_
        try simp only [Act.put, List.getElem_toArray, List.getElem_cons_zero, List.getElem_cons_succ, List.setIfInBounds_toArray, List.set_cons_zero, List.set_cons_succ]
        refine wpAnyH_take (i := 20) (v := .bool true) rfl (by kernel_rfl) (by kernel_rfl) (by kernel_rfl) (fun _ _ _ h => h) (.inl ⟨by rfl, fun V hV => by obtain ⟨c0, c1, c2, c3, c4⟩ := hV; go_simp⟩) hHeld ?_
        try simp only [Act.put, List.getElem_toArray, List.getElem_cons_zero, List.getElem_cons_succ, List.setIfInBounds_toArray, List.set_cons_zero, List.set_cons_succ]
        refine wpAnyH_done (by kernel_rfl) ?_ _
        refine NoPanic.normal ?_

        go_wp2_with fail
        go_ret
        exact ⟨rfl, hb4.trans (hv2.mono hb4.size)⟩
      · simp only [Bool.true_and] at Hap
        refine wp_region_noPanic ?_
        refine wp_region_held_drew (S := (fun V => V.cell? ⟨w2.heap.size, 0, none⟩ = some (.bool sl) ∧ V.cell? ⟨w2.heap.size, 1, none⟩ = some (.slice Al ml cl) ∧ V.cell? ⟨w2.heap.size, 2, none⟩ = some (.bool false) ∧ V.cell? ⟨w2.heap.size, 3, none⟩ = some (.slice Ar mr cr) ∧ V.cell? ⟨w2.heap.size, 4, none⟩ = some (.bool br))) (by kernel_rfl) ⟨x0, x1, x2, x3, x4⟩ (fun hHeld => ?_)
        refine wpAnyH_take (i := 0) (v := .bool true) rfl (by kernel_rfl) (by kernel_rfl) (by kernel_rfl) (fun _ _ _ h => h) (.inl ⟨by rfl, fun V hV => by obtain ⟨c0, c1, c2, c3, c4⟩ := hV; go_simp⟩) hHeld ?_
        try simp only [Act.put, List.getElem_toArray, List.getElem_cons_zero, List.setIfInBounds_toArray, List.set_cons_zero, List.set_cons_succ]
        refine wpAnyH_take (i := 1) (v := .bool true) rfl (by kernel_rfl) (by kernel_rfl) (by kernel_rfl) (fun _ _ _ h => h) (.inl ⟨by rfl, fun V hV => by obtain ⟨c0, c1, c2, c3, c4⟩ := hV; go_simp⟩) hHeld ?_
        try simp only [Act.put, List.getElem_toArray, List.getElem_cons_zero, List.getElem_cons_succ, List.setIfInBounds_toArray, List.set_cons_zero, List.set_cons_succ]
        refine wpAnyH_take (i := 2) (v := .agg #[.bool sl, .slice Al ml cl, .bool false, .slice Ar mr cr, .bool br]) rfl (by kernel_rfl) (by kernel_rfl) (by kernel_rfl) (fun _ _ _ h => h) (.inl ⟨by rfl, fun V hV => by obtain ⟨c0, c1, c2, c3, c4⟩ := hV; go_simp⟩) hHeld ?_
        try simp only [Act.put, List.getElem_toArray, List.getElem_cons_zero, List.getElem_cons_succ, List.setIfInBounds_toArray, List.set_cons_zero, List.set_cons_succ]
        refine wpAnyH_take (i := 3) (v := .slice B n c2) rfl (by kernel_rfl) (by kernel_rfl) (by kernel_rfl) (fun _ _ _ h => h) (.inl ⟨by rfl, fun V hV => by obtain ⟨c0, c1, c2, c3, c4⟩ := hV; go_simp⟩) hHeld ?_
        try simp only [Act.put, List.getElem_toArray, List.getElem_cons_zero, List.getElem_cons_succ, List.setIfInBounds_toArray, List.set_cons_zero, List.set_cons_succ]
        refine wpAnyH_take (i := 4) (v := .int .i64 at_) rfl (by kernel_rfl) (by kernel_rfl) (by kernel_rfl) (fun _ _ _ h => h) (.inl ⟨by rfl, fun V hV => by obtain ⟨c0, c1, c2, c3, c4⟩ := hV; go_simp⟩) hHeld ?_
        try simp only [Act.put, List.getElem_toArray, List.getElem_cons_zero, List.getElem_cons_succ, List.setIfInBounds_toArray, List.set_cons_zero, List.set_cons_succ]
        refine wpAnyH_take (i := 6) (v := .pointer (some ⟨w2.heap.size, 0, none⟩)) rfl (by kernel_rfl) (by kernel_rfl) (by kernel_rfl) (fun _ _ _ h => h) (.inl ⟨by rfl, fun V hV => by obtain ⟨c0, c1, c2, c3, c4⟩ := hV; go_simp⟩) hHeld ?_
        try simp only [Act.put, List.getElem_toArray, List.getElem_cons_zero, List.getElem_cons_succ, List.setIfInBounds_toArray, List.set_cons_zero, List.set_cons_succ]
        refine wpAnyH_take (i := 7) (v := .agg #[.bool sl, .slice Al ml cl]) rfl (by kernel_rfl) (by kernel_rfl) (by kernel_rfl) (fun _ _ _ h => h) (.inl ⟨by rfl, fun V hV => by obtain ⟨c0, c1, c2, c3, c4⟩ := hV; go_simp⟩) hHeld ?_
        try simp only [Act.put, List.getElem_toArray, List.getElem_cons_zero, List.getElem_cons_succ, List.setIfInBounds_toArray, List.set_cons_zero, List.set_cons_succ]
        refine wpAnyH_take (i := 8) (v := .slice B n c2) rfl (by kernel_rfl) (by kernel_rfl) (by kernel_rfl) (fun _ _ _ h => h) (.inl ⟨by rfl, fun V hV => by obtain ⟨c0, c1, c2, c3, c4⟩ := hV; go_simp⟩) hHeld ?_
        try simp only [Act.put, List.getElem_toArray, List.getElem_cons_zero, List.getElem_cons_succ, List.setIfInBounds_toArray, List.set_cons_zero, List.set_cons_succ]
        refine wpAnyH_take (i := 9) (v := .int .i64 at_) rfl (by kernel_rfl) (by kernel_rfl) (by kernel_rfl) (fun _ _ _ h => h) (.inl ⟨by rfl, fun V hV => by obtain ⟨c0, c1, c2, c3, c4⟩ := hV; go_simp⟩) hHeld ?_
        try simp only [Act.put, List.getElem_toArray, List.getElem_cons_zero, List.getElem_cons_succ, List.setIfInBounds_toArray, List.set_cons_zero, List.set_cons_succ]
        refine wpAnyH_ready (rs := [5]) (by kernel_rfl) (by simp) ?_
        refine AllReadyH.cons rfl (fun K hK => ?_) AllReadyH.nil
        go_simp
        refine (Hap.out _ hv0).mono ?_
        rintro e v1 ⟨rfl, hc⟩
        have hv1 : Below W.heap.size W v1 := hv0.trans (hc.mono hv0.size)
        clear hc
        have qv10 := (cellOf hv1 hXl).trans x0
        have qv11 := (cellOf hv1 hXl).trans x1
        have qv12 := (cellOf hv1 hXl).trans x2
        have qv13 := (cellOf hv1 hXl).trans x3
        have qv14 := (cellOf hv1 hXl).trans x4
        refine hK.out _ _ ⟨qv10, qv11, qv12, qv13, qv14⟩ (fun hHeld => ?_)
        clear hK K
        try simp only [Act.put, List.getElem_toArray, List.getElem_cons_zero, List.getElem_cons_succ, List.setIfInBounds_toArray, List.set_cons_zero, List.set_cons_succ]
        refine wpAnyH_ready (rs := [10]) (by kernel_rfl) (by simp) ?_
        refine AllReadyH.cons rfl (fun K hK => ?_) AllReadyH.nil
        go_simp
        refine (Hbe.out _ hv1).mono ?_
        rintro e v2 ⟨rfl, hc⟩
        have hv2 : Below W.heap.size W v2 := hv1.trans (hc.mono hv1.size)
        clear hc
        have qv20 := (cellOf hv2 hXl).trans x0
        have qv21 := (cellOf hv2 hXl).trans x1
        have qv22 := (cellOf hv2 hXl).trans x2
        have qv23 := (cellOf hv2 hXl).trans x3
        have qv24 := (cellOf hv2 hXl).trans x4
        refine hK.out _ _ ⟨qv20, qv21, qv22, qv23, qv24⟩ (fun hHeld => ?_)
        clear hK K
        try simp only [Act.put, List.getElem_toArray, List.getElem_cons_zero, List.getElem_cons_succ, List.setIfInBounds_toArray, List.set_cons_zero, List.set_cons_succ]
        refine wpAnyH_take (i := 11) (v := .bool true) rfl (by kernel_rfl) (by kernel_rfl) (by kernel_rfl) (fun _ _ _ h => h) (.inl ⟨by rfl, fun V hV => by obtain ⟨c0, c1, c2, c3, c4⟩ := hV; go_simp⟩) hHeld ?_
        try simp only [Act.put, List.getElem_toArray, List.getElem_cons_zero, List.getElem_cons_succ, List.setIfInBounds_toArray, List.set_cons_zero, List.set_cons_succ]
        refine wpAnyH_take (i := 12) (v := .pointer (some ⟨w2.heap.size, 2, none⟩)) rfl (by kernel_rfl) (by kernel_rfl) (by kernel_rfl) (fun _ _ _ h => h) (.inl ⟨by rfl, fun V hV => by obtain ⟨c0, c1, c2, c3, c4⟩ := hV; go_simp⟩) hHeld ?_
        try simp only [Act.put, List.getElem_toArray, List.getElem_cons_zero, List.getElem_cons_succ, List.setIfInBounds_toArray, List.set_cons_zero, List.set_cons_succ]
        refine wpAnyH_take (i := 13) (v := .agg #[.bool false, .slice Ar mr cr]) rfl (by kernel_rfl) (by kernel_rfl) (by kernel_rfl) (fun _ _ _ h => h) (.inl ⟨by rfl, fun V hV => by obtain ⟨c0, c1, c2, c3, c4⟩ := hV; go_simp⟩) hHeld ?_
        try simp only [Act.put, List.getElem_toArray, List.getElem_cons_zero, List.getElem_cons_succ, List.setIfInBounds_toArray, List.set_cons_zero, List.set_cons_succ]
        refine wpAnyH_take (i := 14) (v := .slice B n c2) rfl (by kernel_rfl) (by kernel_rfl) (by kernel_rfl) (fun _ _ _ h => h) (.inl ⟨by rfl, fun V hV => by obtain ⟨c0, c1, c2, c3, c4⟩ := hV; go_simp⟩) hHeld ?_
        try simp only [Act.put, List.getElem_toArray, List.getElem_cons_zero, List.getElem_cons_succ, List.setIfInBounds_toArray, List.set_cons_zero, List.set_cons_succ]
        refine wpAnyH_take (i := 15) (v := .int .i64 at_) rfl (by kernel_rfl) (by kernel_rfl) (by kernel_rfl) (fun _ _ _ h => h) (.inl ⟨by rfl, fun V hV => by obtain ⟨c0, c1, c2, c3, c4⟩ := hV; go_simp⟩) hHeld ?_
        try simp only [Act.put, List.getElem_toArray, List.getElem_cons_zero, List.getElem_cons_succ, List.setIfInBounds_toArray, List.set_cons_zero, List.set_cons_succ]
        refine wpAnyH_ready (rs := [16]) (by kernel_rfl) (by simp) ?_
        refine AllReadyH.cons rfl (fun K hK => ?_) AllReadyH.nil
        go_simp
        refine (Hah.out _ hv2).mono ?_
        rintro e v3 ⟨rfl, hc⟩
        have hv3 : Below W.heap.size W v3 := hv2.trans (hc.mono hv2.size)
        clear hc
        have qv30 := (cellOf hv3 hXl).trans x0
        have qv31 := (cellOf hv3 hXl).trans x1
        have qv32 := (cellOf hv3 hXl).trans x2
        have qv33 := (cellOf hv3 hXl).trans x3
        have qv34 := (cellOf hv3 hXl).trans x4
        refine hK.out _ _ ⟨qv30, qv31, qv32, qv33, qv34⟩ (fun hHeld => ?_)
        clear hK K
        try simp only [Act.put, List.getElem_toArray, List.getElem_cons_zero, List.getElem_cons_succ, List.setIfInBounds_toArray, List.set_cons_zero, List.set_cons_succ]
        refine wpAnyH_take (i := 17) (v := .bool ah) rfl (by kernel_rfl) (by kernel_rfl) (by kernel_rfl) (fun _ _ _ h => h) (.inl ⟨by rfl, fun V hV => by obtain ⟨c0, c1, c2, c3, c4⟩ := hV; go_simp⟩) hHeld ?_
        try simp only [Act.put, List.getElem_toArray, List.getElem_cons_zero, List.getElem_cons_succ, List.setIfInBounds_toArray, List.set_cons_zero, List.set_cons_succ]
        refine wpAnyH_take (i := 18) (v := .bool true) rfl (by kernel_rfl) (by kernel_rfl) (by kernel_rfl) (fun _ _ _ h => h) (.inl ⟨by rfl, fun V hV => by obtain ⟨c0, c1, c2, c3, c4⟩ := hV; go_simp⟩) hHeld ?_
        try simp only [Act.put, List.getElem_toArray, List.getElem_cons_zero, List.getElem_cons_succ, List.setIfInBounds_toArray, List.set_cons_zero, List.set_cons_succ]
        refine wpAnyH_take (i := 19) (v := .bool true) rfl (by kernel_rfl) (by kernel_rfl) (by kernel_rfl) (fun _ _ _ h => h) (.inl ⟨by rfl, fun V hV => by obtain ⟨c0, c1, c2, c3, c4⟩ := hV; go_simp⟩) hHeld ?_
        try simp only [Act.put, List.getElem_toArray, List.getElem_cons_zero, List.getElem_cons_succ, List.setIfInBounds_toArray, List.set_cons_zero, List.set_cons_succ]
        refine wpAnyH_take (i := 20) (v := .bool true) rfl (by kernel_rfl) (by kernel_rfl) (by kernel_rfl) (fun _ _ _ h => h) (.inl ⟨by rfl, fun V hV => by obtain ⟨c0, c1, c2, c3, c4⟩ := hV; go_simp⟩) hHeld ?_
        try simp only [Act.put, List.getElem_toArray, List.getElem_cons_zero, List.getElem_cons_succ, List.setIfInBounds_toArray, List.set_cons_zero, List.set_cons_succ]
        refine wpAnyH_done (by kernel_rfl) ?_ _
        refine NoPanic.normal ?_

        go_wp2_with fail
        go_ret
        exact ⟨rfl, hb4.trans (hv3.mono hb4.size)⟩
    · have hap := fun V (hV : Below w2.heap.size w2 V) => rule_Applies { sl := sl, xl := xl, sr := true, xr := xr, br := br } Al Ar B ml cl mr cr n c2 zs at_ V ((hM.below hV).more hV.size) ((hzW.below hV).more hV.size) (by omega) hnc
      rw [appB_start rfl] at hap
      simp only [ruleV] at hap
      have Hap := Lib.hid hap
      clear hap
      go_wp2_with fail
      refine (Hap.out _ (by go_grown)).mono ?_
      rintro e w4 ⟨rfl, hb5⟩
      go_wp2_with fail
      go_ret
      exact ⟨rfl, (hb3.alloc hb3.size _).trans (hb5.mono (by simp; exact Nat.le_succ_of_le hb3.size))⟩
end Go.Vir

/- The row of RuleSides and its tied card: for every input (under the row's conditions on the listed variables) the law returns true and its arguments read as before. -/
namespace Go.Proofs.YtpjhjjkkbbmnjaaGreatDoor
open Go Go.Vir Go.RowKit Go.Proofs Go.ChangeShapes Go.WideShapes Go.ChangeAt

set_option maxHeartbeats 800000 in
set_option maxRecDepth 100000 in
theorem sides_lifted (os : Os) (started : os.Started) (H : Type) (enc : TypeId × Value → H) :
    ReturnsInHanded {} Tryz.checked os 8 .any (fun w args => (Rows.ruleSidesSpec.pre enc Tryz.prog Tryz.f8 [] false w args ∧ laidMetH Tryz.prog laid5 w) ∧ sizedMet enc Tryz.prog Tryz.f8 (OpenSpec.ofChange Rows.ruleSidesSpec) false w args)
      (Rows.ruleSidesSpec.post enc Tryz.prog Tryz.f8 false true false false) := by
  refine returns_shaped (C := Tryz.checked) (X := fun w _ => laidMetH Tryz.prog laid5 w) (fun _ _ _ hh h => h.of_heap hh) own started (by kernel_rfl) Tryz.func8
    (ChangeSpec.witness_shaped (enc := enc) (C := Tryz.checked) (os := os) (X := fun w _ => laidMetH Tryz.prog laid5 w) false (world5 os) #[.slice none 0 0, .slice none 0 0, .int .i64 0, .int .i64 0] 8 (world5_os os) (world5_shaped os) (by kernel_rfl) (by kernel_rfl) (by kernel_rfl) (world5_met os _)) ?_
  intro W base args ds gs before hval0 hW hsh hL
  have hval : ∀ (j : Nat) t v, Tryz.f8.params[j]? = some t → args[j]? = some v → Value.okWide Tryz.prog W .any base t v := hval0
  have hW' := hW
  obtain ⟨p, q, hA0, hV, rfl, _, _⟩ := hW
  have hA : DataW.TrodAll enc Tryz.prog W 0 (fun _ => true) true Tryz.f8.params.toList args.toList ds p := hA0
  rw [Tryz.params8] at hA hval
  obtain ⟨v0, v1, v2, v3, d0, d1, d2, d3, p0, p1, p2, p3, rfl, rfl, rfl, h0, h1, h2, h3⟩ := trodAll_four hA
  obtain ⟨rfl, rfl⟩ := trodVars_none hV
  have hlt : ∀ x ∈ p0 ++ p1 ++ p2 ++ p3, x.block < W.heap.size := fun x hx => by simpa using hW'.lt x (by simpa using hx)
  have hargs : ∀ (W' : World), Below W.heap.size W W' → DataW.TrodAll enc Tryz.prog W' 0 (fun b => decide (b < W.heap.size)) true #[42, 36, 3, 3].toList #[v0, v1, v2, v3].toList [d0, d1, d2, d3] (p0 ++ (p1 ++ (p2 ++ p3))) := fun W' hn =>
    trodAll_mk4 (Below.trod laidOut (by kernel_rfl) (of_decide_eq_true (by kernel_rfl)) h0 hn (fun x hx => hlt x (by simp [hx]))) (Below.trod laidOut (by kernel_rfl) (of_decide_eq_true (by kernel_rfl)) h1 hn (fun x hx => hlt x (by simp [hx]))) (Below.trod laidOut (by kernel_rfl) (of_decide_eq_true (by kernel_rfl)) h2 hn (fun x hx => hlt x (by simp [hx]))) (Below.trod laidOut (by kernel_rfl) (of_decide_eq_true (by kernel_rfl)) h3 hn (fun x hx => hlt x (by simp [hx])))
  have hG := globs_of_laid hsh hL
  have key : Calls Tryz.prog 8 #[v0, v1, v2, v3] W fun e W' => e = .returned (.bool true) ∧ Below W.heap.size W W' := by
    obtain ⟨A, m, c, rs, rfl, hc, hm, hx⟩ := open_rules (hval 0 42 v0 rfl rfl) h0
    obtain ⟨B, n, c2, zs, rfl, hc2, hz⟩ := open_numbers (hval 1 36 v1 rfl rfl) h1
    obtain ⟨at_, rfl, _, _, _⟩ := open_int Tryz.underlying3 (hval 2 3 v2 rfl rfl) h2
    obtain ⟨k, rfl, _, _, _⟩ := open_int Tryz.underlying3 (hval 3 3 v3 rfl rfl) h3
    exact law_sides A B m c n c2 rs zs at_ k W hG hx hz hc2
  refine key.mono fun e W' ⟨he, hn⟩ => ?_
  subst he
  exact ⟨_, rfl, _, _, _, [], _, [], hW', trodAll_mk1 (shut_bool Tryz.underlying4 true), hargs _ hn, rfl, hn.frame _, fun h => by cases h⟩

theorem sides_holds : Rows.RuleSidesSaid :=
  OpenClaim.holds_of_wide 8 Tryz.f8 rfl rfl rfl rfl rfl rfl rfl ⟨rfl, rfl, rfl, rfl, rfl⟩ rfl rfl rfl rfl rfl (by kernel_rfl) Tryz.func8 (by kernel_rfl)
    (of_decide_eq_true (by kernel_rfl)) (by unfold Func.isWrapper; first | (rw [if_pos (by decide +kernel)]; kernel_rfl) | (rw [if_neg (by decide +kernel)]; exact ⟨rfl, rfl⟩))
    (fun os started H enc _ => sides_lifted os started H enc)

theorem sides_card : Rows.RuleSidesCardSaid :=
  Claim7.holds_tied_plain_at .later [] [.data, .handle, .sentinel, .sentinel, .pinned] true (true, "f3439994263bda936d81294eb39ac78299b5f0291b6d31f5858efdaf1e51f421") true
    sides_holds (fun _ h => by cases h) (by kernel_rfl) (fun _ h => by cases h) ruleSides_row_tie rfl ⟨rfl, rfl⟩ (by kernel_rfl) rfl
    (fun f fn hf hfn => by
      obtain rfl : f = 8 := Option.some.inj ((show Tryz.prog.funcNamed "virama/viramalaw11.RuleSides" = some 8 by kernel_rfl).symm.trans hf) |>.symm
      obtain rfl : fn = Tryz.f8 := (Option.some.inj (Tryz.func8.symm.trans hfn)).symm
      exact ⟨by kernel_rfl, fun j t ht => by
        rw [Tryz.params8] at ht
        have hm : t ∈ [42, 36, 3, 3] := by simpa using Array.mem_of_getElem? ht
        have hall : ([42, 36, 3, 3].all fun u => !Tryz.prog.wantsStandIn u) = true := by kernel_rfl
        exact (show Tryz.prog.wantsStandIn t = false by simpa using List.all_eq_true.1 hall t hm)⟩)
    (by kernel_rfl)
#print axioms sides_card
end Go.Proofs.YtpjhjjkkbbmnjaaGreatDoor
