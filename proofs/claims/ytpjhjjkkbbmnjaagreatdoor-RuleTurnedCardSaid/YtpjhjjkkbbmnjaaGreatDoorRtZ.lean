/- The row of RuleTurned and its tied card: for every input (under the row's conditions on the listed variables) the law returns true and its arguments read as before. -/
import Derived.Test.YtpjhjjkkbbmnjaaGreatDoorBi
import Derived.Test.YtpjhjjkkbbmnjaaGreatDoorBj
import Derived.Test.YtpjhjjkkbbmnjaaGreatDoorTie
import Derived.Test.YtpjhjjkkbbmnjaaGreatDoorCards
/- viramalaw11: RuleTurned. -/
namespace Go.Vir
open Go Go.RowKit Go.Proofs Go.Shelf
attribute [local go_sem] Oper.semAt_some

theorem decideB_turn (rs : List RuleV) (l : List Int) (at_ : Int) : decideB (rs.map turnR) l at_ = if (decideB rs l at_).2 < 0 then decideB rs l at_ else (!(decideB rs l at_).1, (decideB rs l at_).2) := by
  unfold decideB
  rw [rulesB_turn]
  split
  · rw [sayB_turn]
  · rfl
theorem turned_succ {rs : List RuleV} {k : Nat} (h : k < rs.length) : (rs.take (k + 1)).map turnR = (rs.take k).map turnR ++ [turnR rs[k]] := by
  rw [List.take_succ_eq_append_getElem h, List.map_append]
  rfl

set_option maxRecDepth 100000 in
set_option maxHeartbeats 8000000 in
theorem law_turned (A B : Option Addr) (m0 c0 n0 c2 : Nat) (rs0 : List RuleV) (zs0 : List Int) (at_ : Int) (w : World) (hG : Globs w) (hx : RlsI w w.heap.size A m0 rs0) (hz : Ints w w.heap.size B n0 zs0) (hc2 : n0 ≤ c2) :
    Calls Tryz.prog 10 #[.slice A m0 c0, .slice B n0 c2, .int .i64 at_] w fun e w' => e = .returned (.bool true) ∧ Below w.heap.size w w' := by
  go_enter Tryz.func10, Tryz.ntmps10
  go_wp2_with fail
  refine (law11_shown _ hG).mono ?_
  rintro e w1 ⟨rfl, hb1⟩
  have hx1 := (hx.below hb1).more hb1.size
  go_wp2_with fail
  refine (law11_Few A m0 c0 rs0 w1 hx1).mono ?_
  rintro e w2 ⟨⟨A2, m, c, rfl, hm, hmc, hR, hm42⟩, hb2⟩
  have Hm := Lib.hid hm
  clear hm
  have hb3 := hb1.trans (hb2.mono hb1.size)
  have hzW := ((hz.below hb3).more hb3.size).take (min n0 30) (by omega)
  have hn30 : min n0 30 ≤ 30 := by omega
  have hnc : min n0 30 ≤ c2 := by omega
  go_wp2_with fail
  refine (law11_list B n0 c2 w2 hc2).mono ?_
  rintro e w3 ⟨rfl, rfl⟩
  clear hx hx1 hz hb1 hb2
  generalize min n0 30 = n at *
  generalize zs0.take n = zs at *
  generalize fewR rs0 = rs at *
  obtain ⟨i0, hi0, hz0, hz1, hz2⟩ := info_parts rule_info
  go_wp2_with fail
  go_loopw [8, 9] (fun v0 i wr => ∃ (k : Nat) (v : Value) (xs : List Value), v = v0 ∧ k ≤ m ∧ i = .int .i64 (k : Int) ∧ wr.ownsRow w2.heap.size 50 5 v k xs ∧ RVs wr w2.heap.size 0 none ((rs.take k).map turnR) xs ∧ Below w2.heap.size w2 wr) (fun _ i _ => m - (RowKit.intOf i).toNat)
  case atStart => exact ⟨0, _, [], rfl, Nat.zero_le _, rfl, World.ownsRow_nil _ _ _ _, by simp [RVs], Below.refl _ _⟩
  case round =>
    obtain ⟨k, v, xs, rfl, hk, rfl, hown, hrv, hbr⟩ := hrel
    rcases Nat.lt_or_ge k m with hlt | hge
    · obtain ⟨rb, ro, rfl, hrb, hrc⟩ := hR.at_ (by omega)
      have hkr : k < rs.length := by rw [← Hm.out]; exact hlt
      have Hsucc := Lib.hid (turned_succ hkr)
      obtain ⟨Al, ml, cl, Ar, mr, cr, y0, y1, y2, y3, y4, hM⟩ := hrc k hkr
      generalize rs[k] = x at *
      obtain ⟨sl, xl, sr, xr, br⟩ := x
      simp only at y0 y1 y2 y3 y4
      have y0r := (cellOf hbr hrb).trans y0
      have y1r := (cellOf hbr hrb).trans y1
      have y2r := (cellOf hbr hrb).trans y2
      have y3r := (cellOf hbr hrb).trans y3
      have y4r := (cellOf hbr hrb).trans y4
      have hv0 : Below w2.heap.size w2 wr.drew := hbr.drew
      have Hlt := Lib.hid hown.lt
      have Hrv := Lib.hid hrv
      have HM := Lib.hid hM
      clear hrc hM hrv
      go_upto_region 8 with fail
      refine wp_region_noPanic ?_
      refine wp_region_held_drew (S := (fun V => V.cell? ⟨rb, ro + k * 5, none⟩ = some (.bool sl) ∧ V.cell? ⟨rb, ro + k * 5 + 1, none⟩ = some (.slice Al ml cl) ∧ V.cell? ⟨rb, ro + k * 5 + 2, none⟩ = some (.bool sr) ∧ V.cell? ⟨rb, ro + k * 5 + 3, none⟩ = some (.slice Ar mr cr) ∧ V.cell? ⟨rb, ro + k * 5 + 4, none⟩ = some (.bool br))) (by kernel_rfl) ⟨(cell_drew _ _).trans y0r, (cell_drew _ _).trans y1r, (cell_drew _ _).trans y2r, (cell_drew _ _).trans y3r, (cell_drew _ _).trans y4r⟩ (fun hHeld => ?_)
      refine wpAnyH_take (i := 0) (v := v) rfl (by kernel_rfl) (by kernel_rfl) (by kernel_rfl) (fun _ _ _ h => h) (.inl ⟨by rfl, fun V hV => by obtain ⟨c0, c1, c2, c3, c4⟩ := hV; go_simp⟩) hHeld ?_
      try simp only [Act.put, List.getElem_toArray, List.getElem_cons_zero, List.setIfInBounds_toArray, List.set_cons_zero, List.set_cons_succ]
      refine wpAnyH_take (i := 1) (v := .slice (some ⟨rb, ro, none⟩) m c) rfl (by kernel_rfl) (by kernel_rfl) (by kernel_rfl) (fun _ _ _ h => h) (.inl ⟨by rfl, fun V hV => by obtain ⟨c0, c1, c2, c3, c4⟩ := hV; go_simp⟩) hHeld ?_
      try simp only [Act.put, List.getElem_toArray, List.getElem_cons_zero, List.getElem_cons_succ, List.setIfInBounds_toArray, List.set_cons_zero, List.set_cons_succ]
      refine wpAnyH_take (i := 2) (v := .int .i64 (k : Int)) rfl (by kernel_rfl) (by kernel_rfl) (by kernel_rfl) (fun _ _ _ h => h) (.inl ⟨by rfl, fun V hV => by obtain ⟨c0, c1, c2, c3, c4⟩ := hV; go_simp⟩) hHeld ?_
      try simp only [Act.put, List.getElem_toArray, List.getElem_cons_zero, List.getElem_cons_succ, List.setIfInBounds_toArray, List.set_cons_zero, List.set_cons_succ]
      refine wpAnyH_take (i := 3) (v := .pointer (some ⟨rb, ro + k * 5, none⟩)) rfl (by kernel_rfl) (by kernel_rfl) (by kernel_rfl) (fun _ _ _ h => h) (.inl ⟨by rfl, fun V hV => by obtain ⟨c0, c1, c2, c3, c4⟩ := hV; go_simp⟩) hHeld ?_
      try simp only [Act.put, List.getElem_toArray, List.getElem_cons_zero, List.getElem_cons_succ, List.setIfInBounds_toArray, List.set_cons_zero, List.set_cons_succ]
      refine wpAnyH_take (i := 4) (v := .pointer (some ⟨rb, ro + k * 5, none⟩)) rfl (by kernel_rfl) (by kernel_rfl) (by kernel_rfl) (fun _ _ _ h => h) (.inl ⟨by rfl, fun V hV => by obtain ⟨c0, c1, c2, c3, c4⟩ := hV; go_simp⟩) hHeld ?_
      try simp only [Act.put, List.getElem_toArray, List.getElem_cons_zero, List.getElem_cons_succ, List.setIfInBounds_toArray, List.set_cons_zero, List.set_cons_succ]
      refine wpAnyH_take (i := 5) (v := .agg #[.bool sl, .slice Al ml cl]) rfl (by kernel_rfl) (by kernel_rfl) (by kernel_rfl) (fun _ _ _ h => h) (.inl ⟨by rfl, fun V hV => by obtain ⟨c0, c1, c2, c3, c4⟩ := hV; go_simp⟩) hHeld ?_
      try simp only [Act.put, List.getElem_toArray, List.getElem_cons_zero, List.getElem_cons_succ, List.setIfInBounds_toArray, List.set_cons_zero, List.set_cons_succ]
      refine wpAnyH_take (i := 6) (v := .slice (some ⟨rb, ro, none⟩) m c) rfl (by kernel_rfl) (by kernel_rfl) (by kernel_rfl) (fun _ _ _ h => h) (.inl ⟨by rfl, fun V hV => by obtain ⟨c0, c1, c2, c3, c4⟩ := hV; go_simp⟩) hHeld ?_
      try simp only [Act.put, List.getElem_toArray, List.getElem_cons_zero, List.getElem_cons_succ, List.setIfInBounds_toArray, List.set_cons_zero, List.set_cons_succ]
      refine wpAnyH_take (i := 7) (v := .int .i64 (k : Int)) rfl (by kernel_rfl) (by kernel_rfl) (by kernel_rfl) (fun _ _ _ h => h) (.inl ⟨by rfl, fun V hV => by obtain ⟨c0, c1, c2, c3, c4⟩ := hV; go_simp⟩) hHeld ?_
      try simp only [Act.put, List.getElem_toArray, List.getElem_cons_zero, List.getElem_cons_succ, List.setIfInBounds_toArray, List.set_cons_zero, List.set_cons_succ]
      refine wpAnyH_take (i := 8) (v := .pointer (some ⟨rb, ro + k * 5, none⟩)) rfl (by kernel_rfl) (by kernel_rfl) (by kernel_rfl) (fun _ _ _ h => h) (.inl ⟨by rfl, fun V hV => by obtain ⟨c0, c1, c2, c3, c4⟩ := hV; go_simp⟩) hHeld ?_
      try simp only [Act.put, List.getElem_toArray, List.getElem_cons_zero, List.getElem_cons_succ, List.setIfInBounds_toArray, List.set_cons_zero, List.set_cons_succ]
      refine wpAnyH_take (i := 9) (v := .pointer (some ⟨rb, ro + k * 5 + 2, none⟩)) rfl (by kernel_rfl) (by kernel_rfl) (by kernel_rfl) (fun _ _ _ h => h) (.inl ⟨by rfl, fun V hV => by obtain ⟨c0, c1, c2, c3, c4⟩ := hV; go_simp⟩) hHeld ?_
      try simp only [Act.put, List.getElem_toArray, List.getElem_cons_zero, List.getElem_cons_succ, List.setIfInBounds_toArray, List.set_cons_zero, List.set_cons_succ]
      refine wpAnyH_take (i := 10) (v := .agg #[.bool sr, .slice Ar mr cr]) rfl (by kernel_rfl) (by kernel_rfl) (by kernel_rfl) (fun _ _ _ h => h) (.inl ⟨by rfl, fun V hV => by obtain ⟨c0, c1, c2, c3, c4⟩ := hV; go_simp⟩) hHeld ?_
      try simp only [Act.put, List.getElem_toArray, List.getElem_cons_zero, List.getElem_cons_succ, List.setIfInBounds_toArray, List.set_cons_zero, List.set_cons_succ]
      refine wpAnyH_take (i := 11) (v := .slice (some ⟨rb, ro, none⟩) m c) rfl (by kernel_rfl) (by kernel_rfl) (by kernel_rfl) (fun _ _ _ h => h) (.inl ⟨by rfl, fun V hV => by obtain ⟨c0, c1, c2, c3, c4⟩ := hV; go_simp⟩) hHeld ?_
      try simp only [Act.put, List.getElem_toArray, List.getElem_cons_zero, List.getElem_cons_succ, List.setIfInBounds_toArray, List.set_cons_zero, List.set_cons_succ]
      refine wpAnyH_take (i := 12) (v := .int .i64 (k : Int)) rfl (by kernel_rfl) (by kernel_rfl) (by kernel_rfl) (fun _ _ _ h => h) (.inl ⟨by rfl, fun V hV => by obtain ⟨c0, c1, c2, c3, c4⟩ := hV; go_simp⟩) hHeld ?_
      try simp only [Act.put, List.getElem_toArray, List.getElem_cons_zero, List.getElem_cons_succ, List.setIfInBounds_toArray, List.set_cons_zero, List.set_cons_succ]
      refine wpAnyH_take (i := 13) (v := .pointer (some ⟨rb, ro + k * 5, none⟩)) rfl (by kernel_rfl) (by kernel_rfl) (by kernel_rfl) (fun _ _ _ h => h) (.inl ⟨by rfl, fun V hV => by obtain ⟨c0, c1, c2, c3, c4⟩ := hV; go_simp⟩) hHeld ?_
      try simp only [Act.put, List.getElem_toArray, List.getElem_cons_zero, List.getElem_cons_succ, List.setIfInBounds_toArray, List.set_cons_zero, List.set_cons_succ]
      refine wpAnyH_take (i := 14) (v := .pointer (some ⟨rb, ro + k * 5 + 4, none⟩)) rfl (by kernel_rfl) (by kernel_rfl) (by kernel_rfl) (fun _ _ _ h => h) (.inl ⟨by rfl, fun V hV => by obtain ⟨c0, c1, c2, c3, c4⟩ := hV; go_simp⟩) hHeld ?_
      try simp only [Act.put, List.getElem_toArray, List.getElem_cons_zero, List.getElem_cons_succ, List.setIfInBounds_toArray, List.set_cons_zero, List.set_cons_succ]
      refine wpAnyH_take (i := 15) (v := .bool br) rfl (by kernel_rfl) (by kernel_rfl) (by kernel_rfl) (fun _ _ _ h => h) (.inl ⟨by rfl, fun V hV => by obtain ⟨c0, c1, c2, c3, c4⟩ := hV; go_simp⟩) hHeld ?_
      try simp only [Act.put, List.getElem_toArray, List.getElem_cons_zero, List.getElem_cons_succ, List.setIfInBounds_toArray, List.set_cons_zero, List.set_cons_succ]
      refine wpAnyH_take (i := 16) (v := .bool (!br)) rfl (by kernel_rfl) (by kernel_rfl) (by kernel_rfl) (fun _ _ _ h => h) (.inl ⟨by rfl, fun V hV => by obtain ⟨c0, c1, c2, c3, c4⟩ := hV; go_simp⟩) hHeld ?_
      try simp only [Act.put, List.getElem_toArray, List.getElem_cons_zero, List.getElem_cons_succ, List.setIfInBounds_toArray, List.set_cons_zero, List.set_cons_succ]
      refine wpAnyH_take (i := 17) (v := .agg #[.bool sl, .slice Al ml cl, .bool sr, .slice Ar mr cr, .bool (!br)]) rfl (by kernel_rfl) (by kernel_rfl) (by kernel_rfl) (fun _ _ _ h => h) (.inl ⟨by rfl, fun V hV => by obtain ⟨c0, c1, c2, c3, c4⟩ := hV; go_simp⟩) hHeld ?_
      try simp only [Act.put, List.getElem_toArray, List.getElem_cons_zero, List.getElem_cons_succ, List.setIfInBounds_toArray, List.set_cons_zero, List.set_cons_succ]
      refine wpAnyH_ready (rs := [18]) (by kernel_rfl) (by simp) ?_
      refine AllReadyH.cons rfl (fun K hK => ?_) AllReadyH.nil
      go_simp
      have hv3 : Below w2.heap.size w2 (wr.drew.alloc (.cells #[.bool sl, .slice Al ml cl, .bool sr, .slice Ar mr cr, .bool (!br)] 50)) := hv0.alloc hv0.size _
      have qa0 := (cellOf hv3 hrb).trans y0
      have qa1 := (cellOf hv3 hrb).trans y1
      have qa2 := (cellOf hv3 hrb).trans y2
      have qa3 := (cellOf hv3 hrb).trans y3
      have qa4 := (cellOf hv3 hrb).trans y4
      refine hK.out _ _ ⟨qa0, qa1, qa2, qa3, qa4⟩ (fun hHeld => ?_)
      clear hK K
      try simp only [Act.put, List.getElem_toArray, List.getElem_cons_zero, List.getElem_cons_succ, List.setIfInBounds_toArray, List.set_cons_zero, List.set_cons_succ]
      refine wpAnyH_ready (rs := [19]) (by kernel_rfl) (by simp) ?_
      refine AllReadyH.cons rfl (fun K hK => ?_) AllReadyH.nil
      refine step_append_where rfl (.tmp 25) (.tmp 43) 42 rfl w2.heap.size 50 i0 (.agg #[.bool false, .slice none 0 0, .bool false, .slice none 0 0, .bool false]) 5 72 Tryz.underlying42 hi0 hz0 hz1 hz2 rfl (by decide) v k xs (by simp [Act.eval]) ((show wr.drew.ownsRow w2.heap.size 50 5 v k xs from hown).alloc _) ⟨wr.drew.heap.size, 0, none⟩ 1 1 [.bool sl, .slice Al ml cl, .bool sr, .slice Ar mr cr, .bool (!br)] (by simp [Act.eval]) rfl (cell_five_new wr.drew _ _ _ _ _ _) (by intro u hu; exact ruleCs_one { sl := sl, xl := [], sr := sr, xr := [], br := !br } Al ml cl Ar mr cr u hu) (by simp only [maxLen]; omega) (by omega) (by have := hv3.size; exact this) ?_
      intro v3 w8 hown8 hgrow hat
      have h8 : Below w2.heap.size w2 w8 := hv3.grown hgrow hv3.size (fun g hg => (Hlt.out g hg).1)
      have qb0 := (cellOf h8 hrb).trans y0
      have qb1 := (cellOf h8 hrb).trans y1
      have qb2 := (cellOf h8 hrb).trans y2
      have qb3 := (cellOf h8 hrb).trans y3
      have qb4 := (cellOf h8 hrb).trans y4
      refine hK.out _ _ ⟨qb0, qb1, qb2, qb3, qb4⟩ (fun hHeld => ?_)
      clear hK K
      try simp only [Act.put, List.getElem_toArray, List.getElem_cons_zero, List.getElem_cons_succ, List.setIfInBounds_toArray, List.set_cons_zero, List.set_cons_succ]
      refine wpAnyH_take (i := 20) (v := v3) rfl (by kernel_rfl) (by kernel_rfl) (by kernel_rfl) (fun _ _ _ h => h) (.inl ⟨by rfl, fun V hV => by obtain ⟨c0, c1, c2, c3, c4⟩ := hV; go_simp⟩) hHeld ?_
      try simp only [Act.put, List.getElem_toArray, List.getElem_cons_zero, List.getElem_cons_succ, List.setIfInBounds_toArray, List.set_cons_zero, List.set_cons_succ]
      refine wpAnyH_done (by kernel_rfl) ?_ _
      refine NoPanic.normal ?_

      have hrv8 : RVs w8 w2.heap.size 0 none ((rs.take (k + 1)).map turnR) (xs ++ [.bool sl, .slice Al ml cl, .bool sr, .slice Ar mr cr, .bool (!br)]) := by
        rw [Hsucc.out]
        have hM8 : RuleM w8 w2.heap.size (turnR { sl := sl, xl := xl, sr := sr, xr := xr, br := br }) Al ml cl Ar mr cr := by
          have := HM.out.below h8
          exact ⟨this.left, this.right, this.lb, this.rb⟩
        have hbr8 : Below w2.heap.size wr w8 := (Below.grown (B := w2.heap.size) (((Below.refl w2.heap.size wr).drew).alloc (by have := hv0.size; exact this) _) hgrow hv3.size (fun g hg => (Hlt.out g hg).1))
        exact (Hrv.out.below hbr8 (Nat.le_refl _)).snoc hM8 (prs_off hM8.left) (prs_off hM8.right)
      go_wp2_with fail
      go_roundw
      case rel => exact ⟨k + 1, _, _, rfl, by omega, by go_num, hown8, hrv8, h8⟩
      case measure => simp [RowKit.intOf]; omega
    · rw [List.take_of_length_le (by rw [← Hm.out]; exact hge)] at hrv
      have hal : (rs.map turnR).length = k := by rw [List.length_map, ← Hm.out]; omega
      rw [← hal] at hown
      obtain ⟨A9, n9, c9, rfl, hn9, hc9, hR9⟩ := rls_own hown hrv hbr.size
      have hn9k : n9 ≤ 42 := by omega
      have hbw := hb3.trans (hbr.mono hb3.size)
      have hd1 := fun W (hW : Below wr.heap.size wr W) => rule_Decide A2 B m c n c2 rs zs at_ W ((((hR.below hbr).more hbr.size).below hW).more hW.size) ((((hzW.below hbr).more hbr.size).below hW).more hW.size) (by omega) (by omega) hnc
      have hd2 := fun W (hW : Below wr.heap.size wr W) => rule_Decide A9 B n9 c9 n c2 (rs.map turnR) zs at_ W ((hR9.below hW).more hW.size) ((((hzW.below hbr).more hbr.size).below hW).more hW.size) (by omega) (by omega) hnc
      have hr1 := fun W (hW : Below wr.heap.size wr W) => rule_Right A2 m c rs 32 W ((((hR.below hbr).more hbr.size).below hW).more hW.size) (by omega)
      have hr2 := fun W (hW : Below wr.heap.size wr W) => rule_Right A9 n9 c9 (rs.map turnR) 32 W ((hR9.below hW).more hW.size) (by omega)
      rw [rulesB_turn] at hr2
      rw [decideB_turn] at hd2
      generalize decideB rs zs at_ = d at *
      generalize rulesB 32 rs = rg at *
      obtain ⟨a, i⟩ := d
      simp only at hd1 hd2
      have Hd1 := Lib.hid hd1
      have Hd2 := Lib.hid hd2
      have Hr1 := Lib.hid hr1
      have Hr2 := Lib.hid hr2
      clear hd1 hd2 hr1 hr2 hown hrv hR9 hR hzW hal hn9
      go_wp2_with fail
      refine (Hd1.out _ (Below.refl _ _)).mono ?_
      rintro e w10 ⟨rfl, hb11⟩
      rcases hi : decide (i < 0) with _ | _
      · have hi0 : 0 ≤ i := by
          have := of_decide_eq_false hi
          omega
        have Hd3 := Lib.hid (Hd2.out _ hb11)
        simp only [show ¬ i < 0 by omega, if_false] at Hd3
        clear hi
        go_wp2_with fail
        refine Hd3.out.mono ?_
        rintro e w11 ⟨rfl, hb12⟩
        have hb13 := hb11.trans (hb12.mono hb11.size)
        clear Hd3 Hd2
        go_wp2_with fail
        refine (Hr1.out _ hb13).mono ?_
        rintro e w12 ⟨rfl, hb14⟩
        have hb15 := hb13.trans (hb14.mono hb13.size)
        go_wp2_with fail
        refine (Hr2.out _ hb15).mono ?_
        rintro e w13 ⟨rfl, hb16⟩
        have hb17 := hbw.trans ((hb15.trans (hb16.mono hb15.size)).mono hbw.size)
        clear hb13 hb14 hb15 hb16
        go_wp2_with fail
        go_ret
        exact ⟨ret_bool (by cases a <;> cases rg <;> simp <;> omega), hb17⟩
      · have hi0 : i < 0 := of_decide_eq_true hi
        have Hd3 := Lib.hid (Hd2.out _ hb11)
        simp only [hi0, if_true] at Hd3
        clear hi
        go_wp2_with fail
        refine Hd3.out.mono ?_
        rintro e w11 ⟨rfl, hb12⟩
        have hb13 := hb11.trans (hb12.mono hb11.size)
        clear Hd3 Hd2
        go_wp2_with fail
        refine (Hr1.out _ hb13).mono ?_
        rintro e w12 ⟨rfl, hb14⟩
        have hb15 := hb13.trans (hb14.mono hb13.size)
        go_wp2_with fail
        refine (Hr2.out _ hb15).mono ?_
        rintro e w13 ⟨rfl, hb16⟩
        have hb17 := hbw.trans ((hb15.trans (hb16.mono hb15.size)).mono hbw.size)
        clear hb13 hb14 hb15 hb16
        go_wp2_with fail
        go_ret
        exact ⟨ret_bool (by cases a <;> cases rg <;> simp <;> omega), hb17⟩
end Go.Vir

/- The row of RuleTurned and its tied card: for every input (under the row's conditions on the listed variables) the law returns true and its arguments read as before. -/
namespace Go.Proofs.YtpjhjjkkbbmnjaaGreatDoor
open Go Go.Vir Go.RowKit Go.Proofs Go.ChangeShapes Go.WideShapes Go.ChangeAt

set_option maxHeartbeats 800000 in
set_option maxRecDepth 100000 in
theorem turned_lifted (os : Os) (started : os.Started) (H : Type) (enc : TypeId × Value → H) :
    ReturnsInHanded {} Tryz.checked os 10 .any (fun w args => (Rows.ruleTurnedSpec.pre enc Tryz.prog Tryz.f10 [] false w args ∧ laidMetH Tryz.prog laid5 w) ∧ sizedMet enc Tryz.prog Tryz.f10 (OpenSpec.ofChange Rows.ruleTurnedSpec) false w args)
      (Rows.ruleTurnedSpec.post enc Tryz.prog Tryz.f10 false true false false) := by
  refine returns_shaped (C := Tryz.checked) (X := fun w _ => laidMetH Tryz.prog laid5 w) (fun _ _ _ hh h => h.of_heap hh) own started (by kernel_rfl) Tryz.func10
    (ChangeSpec.witness_shaped (enc := enc) (C := Tryz.checked) (os := os) (X := fun w _ => laidMetH Tryz.prog laid5 w) false (world5 os) #[.slice none 0 0, .slice none 0 0, .int .i64 0] 8 (world5_os os) (world5_shaped os) (by kernel_rfl) (by kernel_rfl) (by kernel_rfl) (world5_met os _)) ?_
  intro W base args ds gs before hval0 hW hsh hL
  have hval : ∀ (j : Nat) t v, Tryz.f10.params[j]? = some t → args[j]? = some v → Value.okWide Tryz.prog W .any base t v := hval0
  have hW' := hW
  obtain ⟨p, q, hA0, hV, rfl, _, _⟩ := hW
  have hA : DataW.TrodAll enc Tryz.prog W 0 (fun _ => true) true Tryz.f10.params.toList args.toList ds p := hA0
  rw [Tryz.params10] at hA hval
  obtain ⟨v0, v1, v2, d0, d1, d2, p0, p1, p2, rfl, rfl, rfl, h0, h1, h2⟩ := trodAll_three hA
  obtain ⟨rfl, rfl⟩ := trodVars_none hV
  have hlt : ∀ x ∈ p0 ++ p1 ++ p2, x.block < W.heap.size := fun x hx => by simpa using hW'.lt x (by simpa using hx)
  have hargs : ∀ (W' : World), Below W.heap.size W W' → DataW.TrodAll enc Tryz.prog W' 0 (fun b => decide (b < W.heap.size)) true #[42, 36, 3].toList #[v0, v1, v2].toList [d0, d1, d2] (p0 ++ (p1 ++ p2)) := fun W' hn =>
    trodAll_mk3 (Below.trod laidOut (by kernel_rfl) (of_decide_eq_true (by kernel_rfl)) h0 hn (fun x hx => hlt x (by simp [hx]))) (Below.trod laidOut (by kernel_rfl) (of_decide_eq_true (by kernel_rfl)) h1 hn (fun x hx => hlt x (by simp [hx]))) (Below.trod laidOut (by kernel_rfl) (of_decide_eq_true (by kernel_rfl)) h2 hn (fun x hx => hlt x (by simp [hx])))
  have hG := globs_of_laid hsh hL
  have key : Calls Tryz.prog 10 #[v0, v1, v2] W fun e W' => e = .returned (.bool true) ∧ Below W.heap.size W W' := by
    obtain ⟨A, m, c, rs, rfl, hc, hm, hx⟩ := open_rules (hval 0 42 v0 rfl rfl) h0
    obtain ⟨B, n, c2, zs, rfl, hc2, hz⟩ := open_numbers (hval 1 36 v1 rfl rfl) h1
    obtain ⟨at_, rfl, _, _, _⟩ := open_int Tryz.underlying3 (hval 2 3 v2 rfl rfl) h2
    exact law_turned A B m c n c2 rs zs at_ W hG hx hz hc2
  refine key.mono fun e W' ⟨he, hn⟩ => ?_
  subst he
  exact ⟨_, rfl, _, _, _, [], _, [], hW', trodAll_mk1 (shut_bool Tryz.underlying4 true), hargs _ hn, rfl, hn.frame _, fun h => by cases h⟩

theorem turned_holds : Rows.RuleTurnedSaid :=
  OpenClaim.holds_of_wide 10 Tryz.f10 rfl rfl rfl rfl rfl rfl rfl ⟨rfl, rfl, rfl, rfl, rfl⟩ rfl rfl rfl rfl rfl (by kernel_rfl) Tryz.func10 (by kernel_rfl)
    (of_decide_eq_true (by kernel_rfl)) (by unfold Func.isWrapper; first | (rw [if_pos (by decide +kernel)]; kernel_rfl) | (rw [if_neg (by decide +kernel)]; exact ⟨rfl, rfl⟩))
    (fun os started H enc _ => turned_lifted os started H enc)

theorem turned_card : Rows.RuleTurnedCardSaid :=
  Claim7.holds_tied_plain_at .later [] [.data, .handle, .sentinel, .sentinel, .pinned] true (true, "f3439994263bda936d81294eb39ac78299b5f0291b6d31f5858efdaf1e51f421") true
    turned_holds (fun _ h => by cases h) (by kernel_rfl) (fun _ h => by cases h) ruleTurned_row_tie rfl ⟨rfl, rfl⟩ (by kernel_rfl) rfl
    (fun f fn hf hfn => by
      obtain rfl : f = 10 := Option.some.inj ((show Tryz.prog.funcNamed "virama/viramalaw11.RuleTurned" = some 10 by kernel_rfl).symm.trans hf) |>.symm
      obtain rfl : fn = Tryz.f10 := (Option.some.inj (Tryz.func10.symm.trans hfn)).symm
      exact ⟨by kernel_rfl, fun j t ht => by
        rw [Tryz.params10] at ht
        have hm : t ∈ [42, 36, 3] := by simpa using Array.mem_of_getElem? ht
        have hall : ([42, 36, 3].all fun u => !Tryz.prog.wantsStandIn u) = true := by kernel_rfl
        exact (show Tryz.prog.wantsStandIn t = false by simpa using List.all_eq_true.1 hall t hm)⟩)
    (by kernel_rfl)
#print axioms turned_card
end Go.Proofs.YtpjhjjkkbbmnjaaGreatDoor
