/- The row of RuleCuts and its tied card: for every input (under the row's conditions on the listed variables) the law returns true and its arguments read as before. -/
import Derived.Test.YtpjhjjkkbbmnjaaGreatDoorBl
import Derived.Test.YtpjhjjkkbbmnjaaGreatDoorBj
import Derived.Test.YtpjhjjkkbbmnjaaGreatDoorTie
import Derived.Test.YtpjhjjkkbbmnjaaGreatDoorCards
/- viramalaw11: RuleCuts. -/
namespace Go.Vir
open Go Go.RowKit Go.Proofs Go.Shelf
attribute [local go_sem] Oper.semAt_some

set_option maxRecDepth 100000 in
set_option maxHeartbeats 8000000 in
theorem law_cuts (A B : Option Addr) (m0 c0 n0 c2 : Nat) (rs0 : List RuleV) (zs0 : List Int) (kk at_ : Int) (w : World) (hG : Globs w) (hx : RlsI w w.heap.size A m0 rs0) (hz : Ints w w.heap.size B n0 zs0) (hc2 : n0 ≤ c2) :
    Calls Tryz.prog 6 #[.slice A m0 c0, .int .i64 kk, .slice B n0 c2, .int .i64 at_] w fun e w' => e = .returned (.bool true) ∧ Below w.heap.size w w' := by
  go_enter Tryz.func6, Tryz.ntmps6
  go_wp2_with fail
  refine (law11_shown _ hG).mono ?_
  rintro e w1 ⟨rfl, hb1⟩
  have hx1 := (hx.below hb1).more hb1.size
  go_wp2_with fail
  refine (law11_FewC A m0 c0 rs0 w1 hx1).mono ?_
  rintro e w2 ⟨⟨A2, m, c, rfl, hm, hmc, hR, hm42, hno⟩, hb2⟩
  have Hm := Lib.hid hm
  clear hm hno
  have hb3 := hb1.trans (hb2.mono hb1.size)
  have hzW := ((hz.below hb3).more hb3.size).take (min n0 30) (by omega)
  have hn30 : min n0 30 ≤ 30 := by omega
  have hnc : min n0 30 ≤ c2 := by omega
  go_wp2_with fail
  refine (law11_list B n0 c2 w2 hc2).mono ?_
  rintro e w3 ⟨rfl, rfl⟩
  clear hx hx1 hz hb1 hb2
  generalize min n0 30 = n at *
  generalize zs0.take n = zs at *
  generalize fewR rs0 = rs at *
  have hcu := rule_Cuts A2 B m c n c2 rs zs w2 hR.rls hzW (by omega) (by omega) hnc
  have hcv := fun W (hW : Below w2.heap.size w2 W) => ref_Cuts11 A2 B m c n c2 rs zs W ((hR.below hW).more hW.size) ((hzW.below hW).more hW.size) (by omega) (by omega) hnc
  have hd1 := fun W (hW : Below w2.heap.size w2 W) => rule_Decide A2 B m c n c2 rs zs at_ W ((hR.below hW).more hW.size).rls ((hzW.below hW).more hW.size) (by omega) (by omega) hnc
  have hd2 := fun W (hW : Below w2.heap.size w2 W) => ref_Decide11 A2 B m c n c2 rs zs at_ W ((hR.below hW).more hW.size) ((hzW.below hW).more hW.size) (by omega) (by omega) hnc
  have hr1 := fun W (hW : Below w2.heap.size w2 W) => rule_Right A2 m c rs kk W ((hR.below hW).more hW.size).rls (by omega)
  have hr2 := fun W (hW : Below w2.heap.size w2 W) => ref_Right11 A2 m c rs kk W ((hR.below hW).more hW.size).rls (by omega)
  have hcl : (cutsB rs zs).1.length ≤ 1000 := by
    have h1 := hzW.len
    have h2 := till_len rs zs n (n + 1) h1
    unfold tillB at h2
    rw [if_neg (by omega)] at h2
    omega
  generalize cutsB rs zs = cu at *
  generalize decideB rs zs at_ = d at *
  generalize rulesB kk rs = rg at *
  obtain ⟨cs, ce⟩ := cu
  obtain ⟨d1, d2⟩ := d
  simp only at hd1 hd2 hcl
  have Hcu := Lib.hid hcu
  have Hcv := Lib.hid hcv
  have Hd1 := Lib.hid hd1
  have Hd2 := Lib.hid hd2
  have Hr1 := Lib.hid hr1
  have Hr2 := Lib.hid hr2
  clear hcu hcv hd1 hd2 hr1 hr2
  go_wp2_with fail
  refine Hcu.out.mono ?_
  rintro e w3 ⟨⟨A4, n4, c4, rfl, hI⟩, hb4⟩
  simp only at hI
  have hl4 : n4 ≤ 1000 := by have := hI.len; omega
  go_wp2_with fail
  refine (Hcv.out _ hb4).mono ?_
  rintro e w4 ⟨⟨A5, n5, c5, rfl, hJ⟩, hb5⟩
  simp only at hJ
  have hb6 := hb4.trans (hb5.mono hb4.size)
  have hI4 := (hI.below hb5).more hb5.size
  clear hb4 hb5 hI
  go_wp2_with fail
  refine (Hd1.out _ hb6).mono ?_
  rintro e w5 ⟨rfl, hb7⟩
  have hb8 := hb6.trans (hb7.mono hb6.size)
  have hI5 := (hI4.below hb7).more hb7.size
  have hJ5 := (hJ.below hb7).more hb7.size
  clear hb6 hb7 hI4 hJ
  go_wp2_with fail
  refine (Hd2.out _ hb8).mono ?_
  rintro e w6 ⟨rfl, hb9⟩
  have hb10 := hb8.trans (hb9.mono hb8.size)
  have hI6 := (hI5.below hb9).more hb9.size
  have hJ6 := (hJ5.below hb9).more hb9.size
  clear hb8 hb9 hI5 hJ5
  have hfin : ∀ W, Below w6.heap.size w6 W → Calls Tryz.prog 41 #[.slice A4 n4 c4, .slice A5 n5 c5] W fun e w' => e = .returned (.bool true) ∧ Below W.heap.size W w' := fun W hW => by
    have := ref_Ints A4 A5 n4 c4 n5 c5 cs cs W ((hI6.below hW).more hW.size) ((hJ6.below hW).more hW.size) (by omega)
    rwa [decide_eq_true rfl] at this
  have Hfin := Lib.hid hfin
  clear hfin hI6 hJ6
  go_upto_region 8 with fail
  by_cases hm0 : m = 0
  · subst hm0
    go_region
    go_wp2_with fail
    refine (Hfin.out _ (Below.refl _ _).drew).mono ?_
    rintro e w7 ⟨rfl, hb11⟩
    have hb12 : Below w6.heap.size w6 w7 := (Below.refl w6.heap.size w6).drew.trans hb11
    have hb13 := hb10.trans (hb12.mono hb10.size)
    go_wp2_with fail
    refine (Hr1.out _ hb13).mono ?_
    rintro e w8 ⟨rfl, hb14⟩
    have hb15 := hb13.trans (hb14.mono hb13.size)
    go_wp2_with fail
    refine (Hr2.out _ hb15).mono ?_
    rintro e w9 ⟨rfl, hb16⟩
    have hb17 := hb3.trans ((hb15.trans (hb16.mono hb15.size)).mono hb3.size)
    go_wp2_with fail
    go_ret
    exact ⟨rfl, hb17⟩
  · have hmz : ((m : Int) == 0) = false := by rw [beq_eq_false_iff_ne]; omega
    have hmp : 0 < m := by omega
    obtain ⟨rb, ro, rfl, hrb, hrc⟩ := hR.at_ hmp
    have h0r : 0 < rs.length := by rw [← Hm.out]; exact hmp
    obtain ⟨Al, ml, cl, Ar, mr, cr, y0, y1, y2, y3, y4, hM, hcl2, hcr2⟩ := hrc 0 h0r
    have e0 : ro + 0 * 5 = ro := by omega
    rw [e0] at y0 y1 y2 y3 y4
    generalize rs[0] = x at *
    obtain ⟨sl, xl, sr, xr, br⟩ := x
    simp only at y0 y1 y2 y3 y4
    have hap := fun W (hW : Below w2.heap.size w2 W) => rule_Applies { sl := sl, xl := xl, sr := sr, xr := xr, br := br } Al Ar B ml cl mr cr n c2 zs at_ W ((hM.below hW).more hW.size) ((hzW.below hW).more hW.size) (by omega) hnc
    have har := fun W (hW : Below w2.heap.size w2 W) => ref_Applies11 { sl := sl, xl := xl, sr := sr, xr := xr, br := br } Al Ar B ml cl mr cr n c2 zs at_ W ((hM.below hW).more hW.size) hcl2 hcr2 ((hzW.below hW).more hW.size) (by omega) hnc
    simp only [ruleV] at hap har
    generalize appB zs at_ { sl := sl, xl := xl, sr := sr, xr := xr, br := br } = ab at *
    have Hap := Lib.hid hap
    have Har := Lib.hid har
    have z0 := (cellOf hb10 hrb).trans y0
    have z1 := (cellOf hb10 hrb).trans y1
    have z2 := (cellOf hb10 hrb).trans y2
    have z3 := (cellOf hb10 hrb).trans y3
    have z4 := (cellOf hb10 hrb).trans y4
    have hv0 : Below w2.heap.size w2 w6.drew := hb10.drew
    have g0 : Below w6.heap.size w6 w6.drew := (Below.refl _ _).drew
    clear hap har hM hrc hR hzW hm0
    refine wp_region_noPanic ?_
    refine wp_region_held_drew (S := (fun V => V.cell? ⟨rb, ro, none⟩ = some (.bool sl) ∧ V.cell? ⟨rb, ro + 1, none⟩ = some (.slice Al ml cl) ∧ V.cell? ⟨rb, ro + 2, none⟩ = some (.bool sr) ∧ V.cell? ⟨rb, ro + 3, none⟩ = some (.slice Ar mr cr) ∧ V.cell? ⟨rb, ro + 4, none⟩ = some (.bool br))) (by kernel_rfl) ⟨(cell_drew _ _).trans z0, (cell_drew _ _).trans z1, (cell_drew _ _).trans z2, (cell_drew _ _).trans z3, (cell_drew _ _).trans z4⟩ (fun hHeld => ?_)
    refine wpAnyH_take (i := 0) (v := .slice (some ⟨rb, ro, none⟩) m c) rfl (by kernel_rfl) (by kernel_rfl) (by kernel_rfl) (fun _ _ _ h => h) (.inl ⟨by rfl, fun V hV => by obtain ⟨c0, c1, c2, c3, c4⟩ := hV; go_simp⟩) hHeld ?_
    try simp only [Act.put, List.getElem_toArray, List.getElem_cons_zero, List.setIfInBounds_toArray, List.set_cons_zero, List.set_cons_succ]
    refine wpAnyH_take (i := 1) (v := .int .i64 (m : Int)) rfl (by kernel_rfl) (by kernel_rfl) (by kernel_rfl) (fun _ _ _ h => h) (.inl ⟨by rfl, fun V hV => by obtain ⟨c0, c1, c2, c3, c4⟩ := hV; go_simp⟩) hHeld ?_
    try simp only [Act.put, List.getElem_toArray, List.getElem_cons_zero, List.getElem_cons_succ, List.setIfInBounds_toArray, List.set_cons_zero, List.set_cons_succ]
    refine wpAnyH_take (i := 2) (v := .bool false) rfl (by kernel_rfl) (by kernel_rfl) (by kernel_rfl) (fun _ _ _ h => h) (.inl ⟨by rfl, fun V hV => by obtain ⟨c0, c1, c2, c3, c4⟩ := hV; go_simp⟩) hHeld ?_
    try simp only [Act.put, List.getElem_toArray, List.getElem_cons_zero, List.getElem_cons_succ, List.setIfInBounds_toArray, List.set_cons_zero, List.set_cons_succ]
    refine wpAnyH_take (i := 3) (v := .bool false) rfl (by kernel_rfl) (by kernel_rfl) (by kernel_rfl) (fun _ _ _ h => h) (.inl ⟨by rfl, fun V hV => by obtain ⟨c0, c1, c2, c3, c4⟩ := hV; go_simp⟩) hHeld ?_
    try simp only [Act.put, List.getElem_toArray, List.getElem_cons_zero, List.getElem_cons_succ, List.setIfInBounds_toArray, List.set_cons_zero, List.set_cons_succ]
    refine wpAnyH_take (i := 4) (v := .slice (some ⟨rb, ro, none⟩) m c) rfl (by kernel_rfl) (by kernel_rfl) (by kernel_rfl) (fun _ _ _ h => h) (.inl ⟨by rfl, fun V hV => by obtain ⟨c0, c1, c2, c3, c4⟩ := hV; go_simp⟩) hHeld ?_
    try simp only [Act.put, List.getElem_toArray, List.getElem_cons_zero, List.getElem_cons_succ, List.setIfInBounds_toArray, List.set_cons_zero, List.set_cons_succ]
    refine wpAnyH_take (i := 5) (v := .pointer (some ⟨rb, ro, none⟩)) rfl (by kernel_rfl) (by kernel_rfl) (by kernel_rfl) (fun _ _ _ h => h) (.inl ⟨by rfl, fun V hV => by obtain ⟨c0, c1, c2, c3, c4⟩ := hV; go_simp⟩) hHeld ?_
    try simp only [Act.put, List.getElem_toArray, List.getElem_cons_zero, List.getElem_cons_succ, List.setIfInBounds_toArray, List.set_cons_zero, List.set_cons_succ]
    refine wpAnyH_take (i := 6) (v := .agg #[.bool sl, .slice Al ml cl, .bool sr, .slice Ar mr cr, .bool br]) rfl (by kernel_rfl) (by kernel_rfl) (by kernel_rfl) (fun _ _ _ h => h) (.inl ⟨by rfl, fun V hV => by obtain ⟨c0, c1, c2, c3, c4⟩ := hV; go_simp⟩) hHeld ?_
    try simp only [Act.put, List.getElem_toArray, List.getElem_cons_zero, List.getElem_cons_succ, List.setIfInBounds_toArray, List.set_cons_zero, List.set_cons_succ]
    refine wpAnyH_take (i := 7) (v := .slice B n c2) rfl (by kernel_rfl) (by kernel_rfl) (by kernel_rfl) (fun _ _ _ h => h) (.inl ⟨by rfl, fun V hV => by obtain ⟨c0, c1, c2, c3, c4⟩ := hV; go_simp⟩) hHeld ?_
    try simp only [Act.put, List.getElem_toArray, List.getElem_cons_zero, List.getElem_cons_succ, List.setIfInBounds_toArray, List.set_cons_zero, List.set_cons_succ]
    refine wpAnyH_take (i := 8) (v := .int .i64 at_) rfl (by kernel_rfl) (by kernel_rfl) (by kernel_rfl) (fun _ _ _ h => h) (.inl ⟨by rfl, fun V hV => by obtain ⟨c0, c1, c2, c3, c4⟩ := hV; go_simp⟩) hHeld ?_
    try simp only [Act.put, List.getElem_toArray, List.getElem_cons_zero, List.getElem_cons_succ, List.setIfInBounds_toArray, List.set_cons_zero, List.set_cons_succ]
    refine wpAnyH_take (i := 10) (v := .slice (some ⟨rb, ro, none⟩) m c) rfl (by kernel_rfl) (by kernel_rfl) (by kernel_rfl) (fun _ _ _ h => h) (.inl ⟨by rfl, fun V hV => by obtain ⟨c0, c1, c2, c3, c4⟩ := hV; go_simp⟩) hHeld ?_
    try simp only [Act.put, List.getElem_toArray, List.getElem_cons_zero, List.getElem_cons_succ, List.setIfInBounds_toArray, List.set_cons_zero, List.set_cons_succ]
    refine wpAnyH_take (i := 11) (v := .pointer (some ⟨rb, ro, none⟩)) rfl (by kernel_rfl) (by kernel_rfl) (by kernel_rfl) (fun _ _ _ h => h) (.inl ⟨by rfl, fun V hV => by obtain ⟨c0, c1, c2, c3, c4⟩ := hV; go_simp⟩) hHeld ?_
    try simp only [Act.put, List.getElem_toArray, List.getElem_cons_zero, List.getElem_cons_succ, List.setIfInBounds_toArray, List.set_cons_zero, List.set_cons_succ]
    refine wpAnyH_take (i := 12) (v := .agg #[.bool sl, .slice Al ml cl, .bool sr, .slice Ar mr cr, .bool br]) rfl (by kernel_rfl) (by kernel_rfl) (by kernel_rfl) (fun _ _ _ h => h) (.inl ⟨by rfl, fun V hV => by obtain ⟨c0, c1, c2, c3, c4⟩ := hV; go_simp⟩) hHeld ?_
    try simp only [Act.put, List.getElem_toArray, List.getElem_cons_zero, List.getElem_cons_succ, List.setIfInBounds_toArray, List.set_cons_zero, List.set_cons_succ]
    refine wpAnyH_take (i := 13) (v := .slice B n c2) rfl (by kernel_rfl) (by kernel_rfl) (by kernel_rfl) (fun _ _ _ h => h) (.inl ⟨by rfl, fun V hV => by obtain ⟨c0, c1, c2, c3, c4⟩ := hV; go_simp⟩) hHeld ?_
    try simp only [Act.put, List.getElem_toArray, List.getElem_cons_zero, List.getElem_cons_succ, List.setIfInBounds_toArray, List.set_cons_zero, List.set_cons_succ]
    refine wpAnyH_take (i := 14) (v := .int .i64 at_) rfl (by kernel_rfl) (by kernel_rfl) (by kernel_rfl) (fun _ _ _ h => h) (.inl ⟨by rfl, fun V hV => by obtain ⟨c0, c1, c2, c3, c4⟩ := hV; go_simp⟩) hHeld ?_
    try simp only [Act.put, List.getElem_toArray, List.getElem_cons_zero, List.getElem_cons_succ, List.setIfInBounds_toArray, List.set_cons_zero, List.set_cons_succ]
    refine wpAnyH_ready (rs := [9]) (by kernel_rfl) (by simp) ?_
    refine AllReadyH.cons rfl (fun K hK => ?_) AllReadyH.nil
    go_simp
    refine (Hap.out _ hv0).mono ?_
    rintro e v1 ⟨rfl, hc⟩
    have hv1 : Below w2.heap.size w2 v1 := hv0.trans (hc.mono hv0.size)
    have g1 : Below w6.heap.size w6 v1 := g0.trans (hc.mono g0.size)
    clear hc
    have qhv10 := (cellOf hv1 hrb).trans y0
    have qhv11 := (cellOf hv1 hrb).trans y1
    have qhv12 := (cellOf hv1 hrb).trans y2
    have qhv13 := (cellOf hv1 hrb).trans y3
    have qhv14 := (cellOf hv1 hrb).trans y4
    refine hK.out _ _ ⟨qhv10, qhv11, qhv12, qhv13, qhv14⟩ (fun hHeld => ?_)
    clear hK K
    try simp only [Act.put, List.getElem_toArray, List.getElem_cons_zero, List.getElem_cons_succ, List.setIfInBounds_toArray, List.set_cons_zero, List.set_cons_succ]
    refine wpAnyH_ready (rs := [15]) (by kernel_rfl) (by simp) ?_
    refine AllReadyH.cons rfl (fun K hK => ?_) AllReadyH.nil
    go_simp
    refine (Har.out _ hv1).mono ?_
    rintro e v2 ⟨rfl, hc⟩
    have hv2 : Below w2.heap.size w2 v2 := hv1.trans (hc.mono hv1.size)
    have g2 : Below w6.heap.size w6 v2 := g1.trans (hc.mono g1.size)
    clear hc
    have qhv20 := (cellOf hv2 hrb).trans y0
    have qhv21 := (cellOf hv2 hrb).trans y1
    have qhv22 := (cellOf hv2 hrb).trans y2
    have qhv23 := (cellOf hv2 hrb).trans y3
    have qhv24 := (cellOf hv2 hrb).trans y4
    refine hK.out _ _ ⟨qhv20, qhv21, qhv22, qhv23, qhv24⟩ (fun hHeld => ?_)
    clear hK K
    try simp only [Act.put, List.getElem_toArray, List.getElem_cons_zero, List.getElem_cons_succ, List.setIfInBounds_toArray, List.set_cons_zero, List.set_cons_succ]
    refine wpAnyH_take (i := 16) (v := .bool true) rfl (by kernel_rfl) (by kernel_rfl) (by kernel_rfl) (fun _ _ _ h => h) (.inl ⟨by rfl, fun V hV => by obtain ⟨c0, c1, c2, c3, c4⟩ := hV; go_simp⟩) hHeld ?_
    try simp only [Act.put, List.getElem_toArray, List.getElem_cons_zero, List.getElem_cons_succ, List.setIfInBounds_toArray, List.set_cons_zero, List.set_cons_succ]
    refine wpAnyH_take (i := 17) (v := .bool true) rfl (by kernel_rfl) (by kernel_rfl) (by kernel_rfl) (fun _ _ _ h => h) (.inl ⟨by rfl, fun V hV => by obtain ⟨c0, c1, c2, c3, c4⟩ := hV; go_simp⟩) hHeld ?_
    try simp only [Act.put, List.getElem_toArray, List.getElem_cons_zero, List.getElem_cons_succ, List.setIfInBounds_toArray, List.set_cons_zero, List.set_cons_succ]
    refine wpAnyH_take (i := 18) (v := .bool true) rfl (by kernel_rfl) (by kernel_rfl) (by kernel_rfl) (fun _ _ _ h => h) (.inl ⟨by rfl, fun V hV => by obtain ⟨c0, c1, c2, c3, c4⟩ := hV; go_simp⟩) hHeld ?_
    try simp only [Act.put, List.getElem_toArray, List.getElem_cons_zero, List.getElem_cons_succ, List.setIfInBounds_toArray, List.set_cons_zero, List.set_cons_succ]
    refine wpAnyH_done (by kernel_rfl) ?_ _
    refine NoPanic.normal ?_

    go_wp2_with fail
    refine (Hfin.out _ g2).mono ?_
    rintro e w7 ⟨rfl, hb11⟩
    have hb13 := hv2.trans (hb11.mono hv2.size)
    go_wp2_with fail
    refine (Hr1.out _ hb13).mono ?_
    rintro e w8 ⟨rfl, hb14⟩
    have hb15 := hb13.trans (hb14.mono hb13.size)
    go_wp2_with fail
    refine (Hr2.out _ hb15).mono ?_
    rintro e w9 ⟨rfl, hb16⟩
    have hb17 := hb3.trans ((hb15.trans (hb16.mono hb15.size)).mono hb3.size)
    go_wp2_with fail
    go_ret
    exact ⟨ret_bool (by simp), hb17⟩
end Go.Vir

/- The row of RuleCuts and its tied card: for every input (under the row's conditions on the listed variables) the law returns true and its arguments read as before. -/
namespace Go.Proofs.YtpjhjjkkbbmnjaaGreatDoor
open Go Go.Vir Go.RowKit Go.Proofs Go.ChangeShapes Go.WideShapes Go.ChangeAt

set_option maxHeartbeats 800000 in
set_option maxRecDepth 100000 in
theorem cuts_lifted (os : Os) (started : os.Started) (H : Type) (enc : TypeId × Value → H) :
    ReturnsInHanded {} Tryz.checked os 6 .any (fun w args => (Rows.ruleCutsSpec.pre enc Tryz.prog Tryz.f6 [] false w args ∧ laidMetH Tryz.prog laid5 w) ∧ sizedMet enc Tryz.prog Tryz.f6 (OpenSpec.ofChange Rows.ruleCutsSpec) false w args)
      (Rows.ruleCutsSpec.post enc Tryz.prog Tryz.f6 false true false false) := by
  refine returns_shaped (C := Tryz.checked) (X := fun w _ => laidMetH Tryz.prog laid5 w) (fun _ _ _ hh h => h.of_heap hh) own started (by kernel_rfl) Tryz.func6
    (ChangeSpec.witness_shaped (enc := enc) (C := Tryz.checked) (os := os) (X := fun w _ => laidMetH Tryz.prog laid5 w) false (world5 os) #[.slice none 0 0, .int .i64 0, .slice none 0 0, .int .i64 0] 8 (world5_os os) (world5_shaped os) (by kernel_rfl) (by kernel_rfl) (by kernel_rfl) (world5_met os _)) ?_
  intro W base args ds gs before hval0 hW hsh hL
  have hval : ∀ (j : Nat) t v, Tryz.f6.params[j]? = some t → args[j]? = some v → Value.okWide Tryz.prog W .any base t v := hval0
  have hW' := hW
  obtain ⟨p, q, hA0, hV, rfl, _, _⟩ := hW
  have hA : DataW.TrodAll enc Tryz.prog W 0 (fun _ => true) true Tryz.f6.params.toList args.toList ds p := hA0
  rw [Tryz.params6] at hA hval
  obtain ⟨v0, v1, v2, v3, d0, d1, d2, d3, p0, p1, p2, p3, rfl, rfl, rfl, h0, h1, h2, h3⟩ := trodAll_four hA
  obtain ⟨rfl, rfl⟩ := trodVars_none hV
  have hlt : ∀ x ∈ p0 ++ p1 ++ p2 ++ p3, x.block < W.heap.size := fun x hx => by simpa using hW'.lt x (by simpa using hx)
  have hargs : ∀ (W' : World), Below W.heap.size W W' → DataW.TrodAll enc Tryz.prog W' 0 (fun b => decide (b < W.heap.size)) true #[42, 3, 36, 3].toList #[v0, v1, v2, v3].toList [d0, d1, d2, d3] (p0 ++ (p1 ++ (p2 ++ p3))) := fun W' hn =>
    trodAll_mk4 (Below.trod laidOut (by kernel_rfl) (of_decide_eq_true (by kernel_rfl)) h0 hn (fun x hx => hlt x (by simp [hx]))) (Below.trod laidOut (by kernel_rfl) (of_decide_eq_true (by kernel_rfl)) h1 hn (fun x hx => hlt x (by simp [hx]))) (Below.trod laidOut (by kernel_rfl) (of_decide_eq_true (by kernel_rfl)) h2 hn (fun x hx => hlt x (by simp [hx]))) (Below.trod laidOut (by kernel_rfl) (of_decide_eq_true (by kernel_rfl)) h3 hn (fun x hx => hlt x (by simp [hx])))
  have hG := globs_of_laid hsh hL
  have key : Calls Tryz.prog 6 #[v0, v1, v2, v3] W fun e W' => e = .returned (.bool true) ∧ Below W.heap.size W W' := by
    obtain ⟨A, m, c, rs, rfl, hc, hm, hx⟩ := open_rules (hval 0 42 v0 rfl rfl) h0
    obtain ⟨k, rfl, _, _, _⟩ := open_int Tryz.underlying3 (hval 1 3 v1 rfl rfl) h1
    obtain ⟨B, n, c2, zs, rfl, hc2, hz⟩ := open_numbers (hval 2 36 v2 rfl rfl) h2
    obtain ⟨at_, rfl, _, _, _⟩ := open_int Tryz.underlying3 (hval 3 3 v3 rfl rfl) h3
    exact law_cuts A B m c n c2 rs zs k at_ W hG hx hz hc2
  refine key.mono fun e W' ⟨he, hn⟩ => ?_
  subst he
  exact ⟨_, rfl, _, _, _, [], _, [], hW', trodAll_mk1 (shut_bool Tryz.underlying4 true), hargs _ hn, rfl, hn.frame _, fun h => by cases h⟩

theorem cuts_holds : Rows.RuleCutsSaid :=
  OpenClaim.holds_of_wide 6 Tryz.f6 rfl rfl rfl rfl rfl rfl rfl ⟨rfl, rfl, rfl, rfl, rfl⟩ rfl rfl rfl rfl rfl (by kernel_rfl) Tryz.func6 (by kernel_rfl)
    (of_decide_eq_true (by kernel_rfl)) (by unfold Func.isWrapper; first | (rw [if_pos (by decide +kernel)]; kernel_rfl) | (rw [if_neg (by decide +kernel)]; exact ⟨rfl, rfl⟩))
    (fun os started H enc _ => cuts_lifted os started H enc)

theorem cuts_card : Rows.RuleCutsCardSaid :=
  Claim7.holds_tied_plain_at .later [] [.data, .handle, .sentinel, .sentinel, .pinned] true (true, "f3439994263bda936d81294eb39ac78299b5f0291b6d31f5858efdaf1e51f421") true
    cuts_holds (fun _ h => by cases h) (by kernel_rfl) (fun _ h => by cases h) ruleCuts_row_tie rfl ⟨rfl, rfl⟩ (by kernel_rfl) rfl
    (fun f fn hf hfn => by
      obtain rfl : f = 6 := Option.some.inj ((show Tryz.prog.funcNamed "virama/viramalaw11.RuleCuts" = some 6 by kernel_rfl).symm.trans hf) |>.symm
      obtain rfl : fn = Tryz.f6 := (Option.some.inj (Tryz.func6.symm.trans hfn)).symm
      exact ⟨by kernel_rfl, fun j t ht => by
        rw [Tryz.params6] at ht
        have hm : t ∈ [42, 3, 36, 3] := by simpa using Array.mem_of_getElem? ht
        have hall : ([42, 3, 36, 3].all fun u => !Tryz.prog.wantsStandIn u) = true := by kernel_rfl
        exact (show Tryz.prog.wantsStandIn t = false by simpa using List.all_eq_true.1 hall t hm)⟩)
    (by kernel_rfl)
#print axioms cuts_card
end Go.Proofs.YtpjhjjkkbbmnjaaGreatDoor
