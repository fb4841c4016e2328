/- viramalaw09: PatternFits. -/
import Derived.Test.YtpjhjjkkbbmnjaaGreatDoorRfC
import Derived.Test.YtpjhjjkkbbmnjaaGreatDoorSamA
import Derived.Test.YtpjhjjkkbbmnjaaGreatDoorFew
import Derived.Test.YtpjhjjkkbbmnjaaGreatDoorWkZ
import Derived.Deep.RegionHeld3
namespace Go.Vir
open Go Go.RowKit Go.Proofs Go.Shelf
attribute [local go_sem] Oper.semAt_some

set_option maxRecDepth 100000 in
set_option maxHeartbeats 8000000 in
theorem law_fits (st st2 : Bool) (A A2 B : Option Addr) (m0 c0 m1 c1 n0 c2 : Nat) (xs0 ys0 : List (Int × Int)) (zs0 : List Int) (k at_ : Int) (w : World) (hG : Globs w) (hx : Prs w w.heap.size A m0 xs0) (hy : Prs w w.heap.size A2 m1 ys0) (hz : Ints w w.heap.size B n0 zs0) (hc0 : m0 ≤ c0) (hc1 : m1 ≤ c1) (hc2 : n0 ≤ c2) :
    Calls Tryz.prog 4 #[.agg #[.bool st, .slice A m0 c0], .agg #[.bool st2, .slice A2 m1 c1], .int .i64 k, .slice B n0 c2, .int .i64 at_] w fun e w' => e = .returned (.bool true) ∧ Below w.heap.size w w' := by
  go_enter Tryz.func4, Tryz.ntmps4
  go_wp2_with fail
  have hb0 : Below w.heap.size w ((w.alloc (.cells #[.bool st, .slice A m0 c0] 24)).alloc (.cells #[.bool st2, .slice A2 m1 c1] 24)) := by go_grown
  have k1 : ((w.alloc (.cells #[.bool st, .slice A m0 c0] 24)).alloc (.cells #[.bool st2, .slice A2 m1 c1] 24)).heap[w.heap.size + 1]? = some (.cells #[.bool st2, .slice A2 m1 c1] 24 (0, 0)) := heap_new (by simp)
  have k0 : ((w.alloc (.cells #[.bool st, .slice A m0 c0] 24)).alloc (.cells #[.bool st2, .slice A2 m1 c1] 24)).heap[w.heap.size]? = some (.cells #[.bool st, .slice A m0 c0] 24 (0, 0)) := by rw [heap_old (by simp)]; exact heap_new rfl
  refine (law_shown _ (hG.below hb0)).mono ?_
  rintro e w1 ⟨rfl, hb1⟩
  have q0 := (hb1.block _ (Array.getElem?_eq_some_iff.1 k0).1).trans k0
  have q1 := (hb1.block _ (Array.getElem?_eq_some_iff.1 k1).1).trans k1
  have hb2 : Below w.heap.size w w1 := hb0.trans (hb1.mono hb0.size)
  clear k0 k1 hb0 hb1 hG
  have f00 := frozen_blk q0 0
  have f01 := frozen_blk q0 1
  have c00 := cell_blk q0 0
  have c01 := cell_blk q0 1
  simp only [List.getElem?_toArray, List.getElem?_cons_zero, List.getElem?_cons_succ] at c00 c01
  go_wp2_with fail
  refine (law_Cut st A m0 c0 w1 hc0).mono ?_
  rintro e w2 ⟨rfl, hb3⟩
  have r0 := (hb3.block _ (Array.getElem?_eq_some_iff.1 q0).1).trans q0
  have r1 := (hb3.block _ (Array.getElem?_eq_some_iff.1 q1).1).trans q1
  have hb4 : Below w.heap.size w w2 := hb2.trans (hb3.mono hb2.size)
  clear q0 q1 f00 f01 c00 c01 hb3 hb2
  have f00 := frozen_blk r0 0
  have f01 := frozen_blk r0 1
  have c00 := cell_blk r0 0
  have c01 := cell_blk r0 1
  have c10 := cell_blk r1 0
  have c11 := cell_blk r1 1
  simp only [List.getElem?_toArray, List.getElem?_cons_zero, List.getElem?_cons_succ] at c00 c01 c10 c11
  go_upto_region 3 with fail
  have k0 := setCell_blk (setCell_blk r0 0 (.bool st)) 1 (.slice A (min m0 12) c0)
  have k1 : ((w2.setCell ⟨w.heap.size, 0, none⟩ (.bool st)).setCell ⟨w.heap.size, 1, none⟩ (.slice A (min m0 12) c0)).heap[w.heap.size + 1]? = some (.cells #[.bool st2, .slice A2 m1 c1] 24 (0, 0)) := by
    rw [Below.heap_setCell _ _ _ _ (Nat.succ_ne_self _), Below.heap_setCell _ _ _ _ (Nat.succ_ne_self _)]; exact r1
  have hb5 : Below w.heap.size w ((w2.setCell ⟨w.heap.size, 0, none⟩ (.bool st)).setCell ⟨w.heap.size, 1, none⟩ (.slice A (min m0 12) c0)) := (hb4.setCell (p := ⟨w.heap.size, 0, none⟩) (Nat.le_refl _) _).setCell (p := ⟨w.heap.size, 1, none⟩) (Nat.le_refl _) _
  clear f00 f01 c00 c01 c10 c11 r0 r1 hb4
  generalize ((w2.setCell ⟨w.heap.size, 0, none⟩ (.bool st)).setCell ⟨w.heap.size, 1, none⟩ (.slice A (min m0 12) c0)) = w3 at *
  have k0' : w3.heap[w.heap.size]? = some (.cells #[.bool st, .slice A (min m0 12) c0] 24 (0, 0)) := k0
  clear k0
  have c10 := cell_blk k1 0
  have c11 := cell_blk k1 1
  simp only [List.getElem?_toArray, List.getElem?_cons_zero, List.getElem?_cons_succ] at c10 c11
  go_wp2_with fail
  refine (law_Cut st2 A2 m1 c1 w3 hc1).mono ?_
  rintro e w4 ⟨rfl, hb6⟩
  have r0 := (hb6.block _ (Array.getElem?_eq_some_iff.1 k0').1).trans k0'
  have r1 := (hb6.block _ (Array.getElem?_eq_some_iff.1 k1).1).trans k1
  have hb7 : Below w.heap.size w w4 := hb5.trans (hb6.mono hb5.size)
  clear k0' k1 c10 c11 hb5 hb6
  have f10 := frozen_blk r1 0
  have f11 := frozen_blk r1 1
  have c10 := cell_blk r1 0
  have c11 := cell_blk r1 1
  simp only [List.getElem?_toArray, List.getElem?_cons_zero, List.getElem?_cons_succ] at c10 c11
  go_upto_region 4 with fail
  have k1 := setCell_blk (setCell_blk r1 0 (.bool st2)) 1 (.slice A2 (min m1 12) c1)
  have k0 : ((w4.setCell ⟨w.heap.size + 1, 0, none⟩ (.bool st2)).setCell ⟨w.heap.size + 1, 1, none⟩ (.slice A2 (min m1 12) c1)).heap[w.heap.size]? = some (.cells #[.bool st, .slice A (min m0 12) c0] 24 (0, 0)) := by
    rw [Below.heap_setCell _ _ _ _ (Nat.ne_of_lt (Nat.lt_succ_self _)), Below.heap_setCell _ _ _ _ (Nat.ne_of_lt (Nat.lt_succ_self _))]; exact r0
  have hB8 : Below w.heap.size w ((w4.setCell ⟨w.heap.size + 1, 0, none⟩ (.bool st2)).setCell ⟨w.heap.size + 1, 1, none⟩ (.slice A2 (min m1 12) c1)) := (hb7.setCell (p := ⟨w.heap.size + 1, 0, none⟩) (Nat.le_succ _) _).setCell (p := ⟨w.heap.size + 1, 1, none⟩) (Nat.le_succ _) _
  clear f10 f11 c10 c11 r0 r1 hb7
  generalize ((w4.setCell ⟨w.heap.size + 1, 0, none⟩ (.bool st2)).setCell ⟨w.heap.size + 1, 1, none⟩ (.slice A2 (min m1 12) c1)) = W at *
  go_wp2_with fail
  refine (law_few B n0 c2 W hc2).mono ?_
  rintro e W' ⟨rfl, rfl⟩
  have hxW := ((hx.below hB8).more hB8.size).take (min m0 12) (by omega)
  have hyW := ((hy.below hB8).more hB8.size).take (min m1 12) (by omega)
  have hzW := ((hz.below hB8).more hB8.size).take (min n0 40) (by omega)
  have hm : min m0 12 ≤ 12 := by omega
  have hm2 : min m1 12 ≤ 12 := by omega
  have hn : min n0 40 ≤ 40 := by omega
  have hmc : min m0 12 ≤ c0 := by omega
  have hmc2 : min m1 12 ≤ c1 := by omega
  have hnc : min n0 40 ≤ c2 := by omega
  go_upto_region 5 with fail
  generalize min m0 12 = m at *
  generalize min m1 12 = m2 at *
  generalize min n0 40 = n at *
  generalize xs0.take m = xs at *
  generalize ys0.take m2 = ys at *
  generalize zs0.take n = zs at *
  have l0 := (Array.getElem?_eq_some_iff.1 k0).1
  have l1 := (Array.getElem?_eq_some_iff.1 k1).1
  have e0 : W.cell? ⟨w.heap.size, 0, none⟩ = some (.bool st) := cell_blk k0 0
  have e1 : W.cell? ⟨w.heap.size, 1, none⟩ = some (.slice A m c0) := cell_blk k0 1
  have e2 : W.cell? ⟨w.heap.size + 1, 0, none⟩ = some (.bool st2) := cell_blk k1 0
  have e3 : W.cell? ⟨w.heap.size + 1, 1, none⟩ = some (.slice A2 m2 c1) := cell_blk k1 1
  have hX := fun V (hV : Below W.heap.size W V) => (hxW.below hV).more hV.size
  have hY := fun V (hV : Below W.heap.size W V) => (hyW.below hV).more hV.size
  have hZ := fun V (hV : Below W.heap.size W V) => (hzW.below hV).more hV.size
  have h1 := fun V (hV : Below W.heap.size W V) => pattern_Right st A m c0 xs k V (hX V hV) (by omega)
  have h2 := fun V (hV : Below W.heap.size W V) => ref_Right9 st A m c0 xs k V (hX V hV) (by omega)
  have h3 := fun V (hV : Below W.heap.size W V) => pattern_Fits st A B m c0 n c2 xs zs V (hX V hV) (hZ V hV) (by omega) (by omega)
  have h4 := fun V (hV : Below W.heap.size W V) => ref_Fits st A B m c0 n c2 xs zs V (hX V hV) hmc (hZ V hV) (by omega) (by omega)
  have h5 := fun V (hV : Below W.heap.size W V) => pattern_Behind st A B m c0 n c2 xs zs at_ V (hX V hV) (hZ V hV) (by omega) (by omega) hnc
  have h6 := fun V (hV : Below W.heap.size W V) => ref_Behind st A B m c0 n c2 xs zs at_ V (hX V hV) hmc (hZ V hV) (by omega) (by omega) hnc
  have h7 := fun V (hV : Below W.heap.size W V) => pattern_Ahead st A B m c0 n c2 xs zs at_ V (hX V hV) (hZ V hV) (by omega) (by omega)
  have h8 := fun V (hV : Below W.heap.size W V) => ref_Ahead st A B m c0 n c2 xs zs at_ V (hX V hV) hmc (hZ V hV) (by omega) (by omega)
  have h9 := fun V (hV : Below W.heap.size W V) => pattern_Same st st2 A A2 m c0 m2 c1 xs ys V (hX V hV) (hY V hV) (by omega) (by omega)
  have h10 := fun V (hV : Below W.heap.size W V) => ref_Same st st2 A A2 m c0 m2 c1 xs ys V (hX V hV) (hY V hV) (by omega) (by omega)
  have h11 := fun V (hV : Below W.heap.size W V) => pattern_Same st st A A m c0 m c0 xs xs V (hX V hV) (hX V hV) (by omega) (by omega)
  rw [show sameB st st xs xs = true by simp [sameB]] at h11
  have H1 := Lib.hid h1
  have H2 := Lib.hid h2
  have H3 := Lib.hid h3
  have H4 := Lib.hid h4
  have H5 := Lib.hid h5
  have H6 := Lib.hid h6
  have H7 := Lib.hid h7
  have H8 := Lib.hid h8
  have H9 := Lib.hid h9
  have H10 := Lib.hid h10
  have H11 := Lib.hid h11
  clear h1 h2 h3 h4 h5 h6 h7 h8 h9 h10 h11 hX hY hZ hxW hyW hzW hx hy hz k0 k1
  have hb : Below W.heap.size W W.drew := (Below.refl _ W).drew
  refine wp_region_noPanic ?_
  refine wp_region_held_drew (S := (fun V => V.cell? ⟨w.heap.size, 0, none⟩ = some (.bool st) ∧ V.cell? ⟨w.heap.size, 1, none⟩ = some (.slice A m c0) ∧ V.cell? ⟨w.heap.size + 1, 0, none⟩ = some (.bool st2) ∧ V.cell? ⟨w.heap.size + 1, 1, none⟩ = some (.slice A2 m2 c1))) (by kernel_rfl) ⟨e0, e1, e2, e3⟩ (fun hHeld => ?_)
  refine wpAnyH_take (i := 0) (v := .bool true) rfl (by kernel_rfl) (by kernel_rfl) (by kernel_rfl) (fun _ _ _ h => h) (.inl ⟨by rfl, fun V hV => by obtain ⟨c0, c1, c2, c3⟩ := hV; go_simp⟩) hHeld ?_
  try simp only [Act.put, List.getElem_toArray, List.getElem_cons_zero, List.getElem_cons_succ, List.setIfInBounds_toArray, List.set_cons_zero, List.set_cons_succ]
  refine wpAnyH_take (i := 1) (v := .bool true) rfl (by kernel_rfl) (by kernel_rfl) (by kernel_rfl) (fun _ _ _ h => h) (.inl ⟨by rfl, fun V hV => by obtain ⟨c0, c1, c2, c3⟩ := hV; go_simp⟩) hHeld ?_
  try simp only [Act.put, List.getElem_toArray, List.getElem_cons_zero, List.getElem_cons_succ, List.setIfInBounds_toArray, List.set_cons_zero, List.set_cons_succ]
  refine wpAnyH_take (i := 2) (v := .agg #[.bool st, .slice A m c0]) rfl (by kernel_rfl) (by kernel_rfl) (by kernel_rfl) (fun _ _ _ h => h) (.inl ⟨by rfl, fun V hV => by obtain ⟨c0, c1, c2, c3⟩ := hV; go_simp⟩) hHeld ?_
  try simp only [Act.put, List.getElem_toArray, List.getElem_cons_zero, List.getElem_cons_succ, List.setIfInBounds_toArray, List.set_cons_zero, List.set_cons_succ]
  refine wpAnyH_take (i := 3) (v := .int .i64 k) rfl (by kernel_rfl) (by kernel_rfl) (by kernel_rfl) (fun _ _ _ h => h) (.inl ⟨by rfl, fun V hV => by obtain ⟨c0, c1, c2, c3⟩ := hV; go_simp⟩) hHeld ?_
  try simp only [Act.put, List.getElem_toArray, List.getElem_cons_zero, List.getElem_cons_succ, List.setIfInBounds_toArray, List.set_cons_zero, List.set_cons_succ]
  refine wpAnyH_take (i := 5) (v := .agg #[.bool st, .slice A m c0]) rfl (by kernel_rfl) (by kernel_rfl) (by kernel_rfl) (fun _ _ _ h => h) (.inl ⟨by rfl, fun V hV => by obtain ⟨c0, c1, c2, c3⟩ := hV; go_simp⟩) hHeld ?_
  try simp only [Act.put, List.getElem_toArray, List.getElem_cons_zero, List.getElem_cons_succ, List.setIfInBounds_toArray, List.set_cons_zero, List.set_cons_succ]
  refine wpAnyH_take (i := 6) (v := .int .i64 k) rfl (by kernel_rfl) (by kernel_rfl) (by kernel_rfl) (fun _ _ _ h => h) (.inl ⟨by rfl, fun V hV => by obtain ⟨c0, c1, c2, c3⟩ := hV; go_simp⟩) hHeld ?_
  try simp only [Act.put, List.getElem_toArray, List.getElem_cons_zero, List.getElem_cons_succ, List.setIfInBounds_toArray, List.set_cons_zero, List.set_cons_succ]
  refine wpAnyH_ready (rs := [4]) (by kernel_rfl) (by simp) ?_
  refine AllReadyH.cons rfl (fun K hK => ?_) AllReadyH.nil
  go_simp
  refine (H1.out _ hb).mono ?_
  rintro e v0 ⟨rfl, hd⟩
  have hb0 : Below W.heap.size W v0 := hb.trans (hd.mono hb.size)
  clear hd
  have x0 := (cellOf hb0 l0).trans e0
  have x1 := (cellOf hb0 l0).trans e1
  have x2 := (cellOf hb0 l1).trans e2
  have x3 := (cellOf hb0 l1).trans e3
  skip
  refine hK.out _ _ ⟨x0, x1, x2, x3⟩ (fun hHeld => ?_)
  clear hK K
  try simp only [Act.put, List.getElem_toArray, List.getElem_cons_zero, List.getElem_cons_succ, List.setIfInBounds_toArray, List.set_cons_zero, List.set_cons_succ]
  refine wpAnyH_ready (rs := [7]) (by kernel_rfl) (by simp) ?_
  refine AllReadyH.cons rfl (fun K hK => ?_) AllReadyH.nil
  go_simp
  refine (H2.out _ hb0).mono ?_
  rintro e v1 ⟨rfl, hd⟩
  have hb1 : Below W.heap.size W v1 := hb0.trans (hd.mono hb0.size)
  clear hd
  have x0 := (cellOf hb1 l0).trans e0
  have x1 := (cellOf hb1 l0).trans e1
  have x2 := (cellOf hb1 l1).trans e2
  have x3 := (cellOf hb1 l1).trans e3
  skip
  refine hK.out _ _ ⟨x0, x1, x2, x3⟩ (fun hHeld => ?_)
  clear hK K
  try simp only [Act.put, List.getElem_toArray, List.getElem_cons_zero, List.getElem_cons_succ, List.setIfInBounds_toArray, List.set_cons_zero, List.set_cons_succ]
  refine wpAnyH_take (i := 8) (v := .bool true) rfl (by kernel_rfl) (by kernel_rfl) (by kernel_rfl) (fun _ _ _ h => h) (.inl ⟨by rfl, fun V hV => by obtain ⟨c0, c1, c2, c3⟩ := hV; go_simp⟩) hHeld ?_
  try simp only [Act.put, List.getElem_toArray, List.getElem_cons_zero, List.getElem_cons_succ, List.setIfInBounds_toArray, List.set_cons_zero, List.set_cons_succ]
  refine wpAnyH_take (i := 9) (v := .bool true) rfl (by kernel_rfl) (by kernel_rfl) (by kernel_rfl) (fun _ _ _ h => h) (.inl ⟨by rfl, fun V hV => by obtain ⟨c0, c1, c2, c3⟩ := hV; go_simp⟩) hHeld ?_
  try simp only [Act.put, List.getElem_toArray, List.getElem_cons_zero, List.getElem_cons_succ, List.setIfInBounds_toArray, List.set_cons_zero, List.set_cons_succ]
  refine wpAnyH_take (i := 10) (v := .bool true) rfl (by kernel_rfl) (by kernel_rfl) (by kernel_rfl) (fun _ _ _ h => h) (.inl ⟨by rfl, fun V hV => by obtain ⟨c0, c1, c2, c3⟩ := hV; go_simp⟩) hHeld ?_
  try simp only [Act.put, List.getElem_toArray, List.getElem_cons_zero, List.getElem_cons_succ, List.setIfInBounds_toArray, List.set_cons_zero, List.set_cons_succ]
  refine wpAnyH_take (i := 11) (v := .agg #[.bool st, .slice A m c0]) rfl (by kernel_rfl) (by kernel_rfl) (by kernel_rfl) (fun _ _ _ h => h) (.inl ⟨by rfl, fun V hV => by obtain ⟨c0, c1, c2, c3⟩ := hV; go_simp⟩) hHeld ?_
  try simp only [Act.put, List.getElem_toArray, List.getElem_cons_zero, List.getElem_cons_succ, List.setIfInBounds_toArray, List.set_cons_zero, List.set_cons_succ]
  refine wpAnyH_take (i := 12) (v := .slice B n c2) rfl (by kernel_rfl) (by kernel_rfl) (by kernel_rfl) (fun _ _ _ h => h) (.inl ⟨by rfl, fun V hV => by obtain ⟨c0, c1, c2, c3⟩ := hV; go_simp⟩) hHeld ?_
  try simp only [Act.put, List.getElem_toArray, List.getElem_cons_zero, List.getElem_cons_succ, List.setIfInBounds_toArray, List.set_cons_zero, List.set_cons_succ]
  refine wpAnyH_take (i := 14) (v := .agg #[.bool st, .slice A m c0]) rfl (by kernel_rfl) (by kernel_rfl) (by kernel_rfl) (fun _ _ _ h => h) (.inl ⟨by rfl, fun V hV => by obtain ⟨c0, c1, c2, c3⟩ := hV; go_simp⟩) hHeld ?_
  try simp only [Act.put, List.getElem_toArray, List.getElem_cons_zero, List.getElem_cons_succ, List.setIfInBounds_toArray, List.set_cons_zero, List.set_cons_succ]
  refine wpAnyH_take (i := 15) (v := .slice B n c2) rfl (by kernel_rfl) (by kernel_rfl) (by kernel_rfl) (fun _ _ _ h => h) (.inl ⟨by rfl, fun V hV => by obtain ⟨c0, c1, c2, c3⟩ := hV; go_simp⟩) hHeld ?_
  try simp only [Act.put, List.getElem_toArray, List.getElem_cons_zero, List.getElem_cons_succ, List.setIfInBounds_toArray, List.set_cons_zero, List.set_cons_succ]
  refine wpAnyH_ready (rs := [13]) (by kernel_rfl) (by simp) ?_
  refine AllReadyH.cons rfl (fun K hK => ?_) AllReadyH.nil
  go_simp
  refine (H3.out _ hb1).mono ?_
  rintro e v2 ⟨rfl, hd⟩
  have hb2 : Below W.heap.size W v2 := hb1.trans (hd.mono hb1.size)
  clear hd
  have x0 := (cellOf hb2 l0).trans e0
  have x1 := (cellOf hb2 l0).trans e1
  have x2 := (cellOf hb2 l1).trans e2
  have x3 := (cellOf hb2 l1).trans e3
  skip
  refine hK.out _ _ ⟨x0, x1, x2, x3⟩ (fun hHeld => ?_)
  clear hK K
  try simp only [Act.put, List.getElem_toArray, List.getElem_cons_zero, List.getElem_cons_succ, List.setIfInBounds_toArray, List.set_cons_zero, List.set_cons_succ]
  refine wpAnyH_ready (rs := [16]) (by kernel_rfl) (by simp) ?_
  refine AllReadyH.cons rfl (fun K hK => ?_) AllReadyH.nil
  go_simp
  refine (H4.out _ hb2).mono ?_
  rintro e v3 ⟨rfl, hd⟩
  have hb3 : Below W.heap.size W v3 := hb2.trans (hd.mono hb2.size)
  clear hd
  have x0 := (cellOf hb3 l0).trans e0
  have x1 := (cellOf hb3 l0).trans e1
  have x2 := (cellOf hb3 l1).trans e2
  have x3 := (cellOf hb3 l1).trans e3
  skip
  refine hK.out _ _ ⟨x0, x1, x2, x3⟩ (fun hHeld => ?_)
  clear hK K
  try simp only [Act.put, List.getElem_toArray, List.getElem_cons_zero, List.getElem_cons_succ, List.setIfInBounds_toArray, List.set_cons_zero, List.set_cons_succ]
  refine wpAnyH_take (i := 17) (v := .bool true) rfl (by kernel_rfl) (by kernel_rfl) (by kernel_rfl) (fun _ _ _ h => h) (.inl ⟨by rfl, fun V hV => by obtain ⟨c0, c1, c2, c3⟩ := hV; go_simp⟩) hHeld ?_
  try simp only [Act.put, List.getElem_toArray, List.getElem_cons_zero, List.getElem_cons_succ, List.setIfInBounds_toArray, List.set_cons_zero, List.set_cons_succ]
  refine wpAnyH_take (i := 18) (v := .bool true) rfl (by kernel_rfl) (by kernel_rfl) (by kernel_rfl) (fun _ _ _ h => h) (.inl ⟨by rfl, fun V hV => by obtain ⟨c0, c1, c2, c3⟩ := hV; go_simp⟩) hHeld ?_
  try simp only [Act.put, List.getElem_toArray, List.getElem_cons_zero, List.getElem_cons_succ, List.setIfInBounds_toArray, List.set_cons_zero, List.set_cons_succ]
  refine wpAnyH_take (i := 19) (v := .bool true) rfl (by kernel_rfl) (by kernel_rfl) (by kernel_rfl) (fun _ _ _ h => h) (.inl ⟨by rfl, fun V hV => by obtain ⟨c0, c1, c2, c3⟩ := hV; go_simp⟩) hHeld ?_
  try simp only [Act.put, List.getElem_toArray, List.getElem_cons_zero, List.getElem_cons_succ, List.setIfInBounds_toArray, List.set_cons_zero, List.set_cons_succ]
  refine wpAnyH_take (i := 20) (v := .agg #[.bool st, .slice A m c0]) rfl (by kernel_rfl) (by kernel_rfl) (by kernel_rfl) (fun _ _ _ h => h) (.inl ⟨by rfl, fun V hV => by obtain ⟨c0, c1, c2, c3⟩ := hV; go_simp⟩) hHeld ?_
  try simp only [Act.put, List.getElem_toArray, List.getElem_cons_zero, List.getElem_cons_succ, List.setIfInBounds_toArray, List.set_cons_zero, List.set_cons_succ]
  refine wpAnyH_take (i := 21) (v := .slice B n c2) rfl (by kernel_rfl) (by kernel_rfl) (by kernel_rfl) (fun _ _ _ h => h) (.inl ⟨by rfl, fun V hV => by obtain ⟨c0, c1, c2, c3⟩ := hV; go_simp⟩) hHeld ?_
  try simp only [Act.put, List.getElem_toArray, List.getElem_cons_zero, List.getElem_cons_succ, List.setIfInBounds_toArray, List.set_cons_zero, List.set_cons_succ]
  refine wpAnyH_take (i := 22) (v := .int .i64 at_) rfl (by kernel_rfl) (by kernel_rfl) (by kernel_rfl) (fun _ _ _ h => h) (.inl ⟨by rfl, fun V hV => by obtain ⟨c0, c1, c2, c3⟩ := hV; go_simp⟩) hHeld ?_
  try simp only [Act.put, List.getElem_toArray, List.getElem_cons_zero, List.getElem_cons_succ, List.setIfInBounds_toArray, List.set_cons_zero, List.set_cons_succ]
  refine wpAnyH_take (i := 24) (v := .agg #[.bool st, .slice A m c0]) rfl (by kernel_rfl) (by kernel_rfl) (by kernel_rfl) (fun _ _ _ h => h) (.inl ⟨by rfl, fun V hV => by obtain ⟨c0, c1, c2, c3⟩ := hV; go_simp⟩) hHeld ?_
  try simp only [Act.put, List.getElem_toArray, List.getElem_cons_zero, List.getElem_cons_succ, List.setIfInBounds_toArray, List.set_cons_zero, List.set_cons_succ]
  refine wpAnyH_take (i := 25) (v := .slice B n c2) rfl (by kernel_rfl) (by kernel_rfl) (by kernel_rfl) (fun _ _ _ h => h) (.inl ⟨by rfl, fun V hV => by obtain ⟨c0, c1, c2, c3⟩ := hV; go_simp⟩) hHeld ?_
  try simp only [Act.put, List.getElem_toArray, List.getElem_cons_zero, List.getElem_cons_succ, List.setIfInBounds_toArray, List.set_cons_zero, List.set_cons_succ]
  refine wpAnyH_take (i := 26) (v := .int .i64 at_) rfl (by kernel_rfl) (by kernel_rfl) (by kernel_rfl) (fun _ _ _ h => h) (.inl ⟨by rfl, fun V hV => by obtain ⟨c0, c1, c2, c3⟩ := hV; go_simp⟩) hHeld ?_
  try simp only [Act.put, List.getElem_toArray, List.getElem_cons_zero, List.getElem_cons_succ, List.setIfInBounds_toArray, List.set_cons_zero, List.set_cons_succ]
  refine wpAnyH_ready (rs := [23]) (by kernel_rfl) (by simp) ?_
  refine AllReadyH.cons rfl (fun K hK => ?_) AllReadyH.nil
  go_simp
  refine (H5.out _ hb3).mono ?_
  rintro e v4 ⟨rfl, hd⟩
  have hb4 : Below W.heap.size W v4 := hb3.trans (hd.mono hb3.size)
  clear hd
  have x0 := (cellOf hb4 l0).trans e0
  have x1 := (cellOf hb4 l0).trans e1
  have x2 := (cellOf hb4 l1).trans e2
  have x3 := (cellOf hb4 l1).trans e3
  skip
  refine hK.out _ _ ⟨x0, x1, x2, x3⟩ (fun hHeld => ?_)
  clear hK K
  try simp only [Act.put, List.getElem_toArray, List.getElem_cons_zero, List.getElem_cons_succ, List.setIfInBounds_toArray, List.set_cons_zero, List.set_cons_succ]
  refine wpAnyH_ready (rs := [27]) (by kernel_rfl) (by simp) ?_
  refine AllReadyH.cons rfl (fun K hK => ?_) AllReadyH.nil
  go_simp
  refine (H6.out _ hb4).mono ?_
  rintro e v5 ⟨rfl, hd⟩
  have hb5 : Below W.heap.size W v5 := hb4.trans (hd.mono hb4.size)
  clear hd
  have x0 := (cellOf hb5 l0).trans e0
  have x1 := (cellOf hb5 l0).trans e1
  have x2 := (cellOf hb5 l1).trans e2
  have x3 := (cellOf hb5 l1).trans e3
  skip
  refine hK.out _ _ ⟨x0, x1, x2, x3⟩ (fun hHeld => ?_)
  clear hK K
  try simp only [Act.put, List.getElem_toArray, List.getElem_cons_zero, List.getElem_cons_succ, List.setIfInBounds_toArray, List.set_cons_zero, List.set_cons_succ]
  refine wpAnyH_take (i := 28) (v := .bool true) rfl (by kernel_rfl) (by kernel_rfl) (by kernel_rfl) (fun _ _ _ h => h) (.inl ⟨by rfl, fun V hV => by obtain ⟨c0, c1, c2, c3⟩ := hV; go_simp⟩) hHeld ?_
  try simp only [Act.put, List.getElem_toArray, List.getElem_cons_zero, List.getElem_cons_succ, List.setIfInBounds_toArray, List.set_cons_zero, List.set_cons_succ]
  refine wpAnyH_take (i := 29) (v := .bool true) rfl (by kernel_rfl) (by kernel_rfl) (by kernel_rfl) (fun _ _ _ h => h) (.inl ⟨by rfl, fun V hV => by obtain ⟨c0, c1, c2, c3⟩ := hV; go_simp⟩) hHeld ?_
  try simp only [Act.put, List.getElem_toArray, List.getElem_cons_zero, List.getElem_cons_succ, List.setIfInBounds_toArray, List.set_cons_zero, List.set_cons_succ]
  refine wpAnyH_take (i := 30) (v := .bool true) rfl (by kernel_rfl) (by kernel_rfl) (by kernel_rfl) (fun _ _ _ h => h) (.inl ⟨by rfl, fun V hV => by obtain ⟨c0, c1, c2, c3⟩ := hV; go_simp⟩) hHeld ?_
  try simp only [Act.put, List.getElem_toArray, List.getElem_cons_zero, List.getElem_cons_succ, List.setIfInBounds_toArray, List.set_cons_zero, List.set_cons_succ]
  refine wpAnyH_take (i := 31) (v := .agg #[.bool st, .slice A m c0]) rfl (by kernel_rfl) (by kernel_rfl) (by kernel_rfl) (fun _ _ _ h => h) (.inl ⟨by rfl, fun V hV => by obtain ⟨c0, c1, c2, c3⟩ := hV; go_simp⟩) hHeld ?_
  try simp only [Act.put, List.getElem_toArray, List.getElem_cons_zero, List.getElem_cons_succ, List.setIfInBounds_toArray, List.set_cons_zero, List.set_cons_succ]
  refine wpAnyH_take (i := 32) (v := .slice B n c2) rfl (by kernel_rfl) (by kernel_rfl) (by kernel_rfl) (fun _ _ _ h => h) (.inl ⟨by rfl, fun V hV => by obtain ⟨c0, c1, c2, c3⟩ := hV; go_simp⟩) hHeld ?_
  try simp only [Act.put, List.getElem_toArray, List.getElem_cons_zero, List.getElem_cons_succ, List.setIfInBounds_toArray, List.set_cons_zero, List.set_cons_succ]
  refine wpAnyH_take (i := 33) (v := .int .i64 at_) rfl (by kernel_rfl) (by kernel_rfl) (by kernel_rfl) (fun _ _ _ h => h) (.inl ⟨by rfl, fun V hV => by obtain ⟨c0, c1, c2, c3⟩ := hV; go_simp⟩) hHeld ?_
  try simp only [Act.put, List.getElem_toArray, List.getElem_cons_zero, List.getElem_cons_succ, List.setIfInBounds_toArray, List.set_cons_zero, List.set_cons_succ]
  refine wpAnyH_take (i := 35) (v := .agg #[.bool st, .slice A m c0]) rfl (by kernel_rfl) (by kernel_rfl) (by kernel_rfl) (fun _ _ _ h => h) (.inl ⟨by rfl, fun V hV => by obtain ⟨c0, c1, c2, c3⟩ := hV; go_simp⟩) hHeld ?_
  try simp only [Act.put, List.getElem_toArray, List.getElem_cons_zero, List.getElem_cons_succ, List.setIfInBounds_toArray, List.set_cons_zero, List.set_cons_succ]
  refine wpAnyH_take (i := 36) (v := .slice B n c2) rfl (by kernel_rfl) (by kernel_rfl) (by kernel_rfl) (fun _ _ _ h => h) (.inl ⟨by rfl, fun V hV => by obtain ⟨c0, c1, c2, c3⟩ := hV; go_simp⟩) hHeld ?_
  try simp only [Act.put, List.getElem_toArray, List.getElem_cons_zero, List.getElem_cons_succ, List.setIfInBounds_toArray, List.set_cons_zero, List.set_cons_succ]
  refine wpAnyH_take (i := 37) (v := .int .i64 at_) rfl (by kernel_rfl) (by kernel_rfl) (by kernel_rfl) (fun _ _ _ h => h) (.inl ⟨by rfl, fun V hV => by obtain ⟨c0, c1, c2, c3⟩ := hV; go_simp⟩) hHeld ?_
  try simp only [Act.put, List.getElem_toArray, List.getElem_cons_zero, List.getElem_cons_succ, List.setIfInBounds_toArray, List.set_cons_zero, List.set_cons_succ]
  refine wpAnyH_ready (rs := [34]) (by kernel_rfl) (by simp) ?_
  refine AllReadyH.cons rfl (fun K hK => ?_) AllReadyH.nil
  go_simp
  refine (H7.out _ hb5).mono ?_
  rintro e v6 ⟨rfl, hd⟩
  have hb6 : Below W.heap.size W v6 := hb5.trans (hd.mono hb5.size)
  clear hd
  have x0 := (cellOf hb6 l0).trans e0
  have x1 := (cellOf hb6 l0).trans e1
  have x2 := (cellOf hb6 l1).trans e2
  have x3 := (cellOf hb6 l1).trans e3
  skip
  refine hK.out _ _ ⟨x0, x1, x2, x3⟩ (fun hHeld => ?_)
  clear hK K
  try simp only [Act.put, List.getElem_toArray, List.getElem_cons_zero, List.getElem_cons_succ, List.setIfInBounds_toArray, List.set_cons_zero, List.set_cons_succ]
  refine wpAnyH_ready (rs := [38]) (by kernel_rfl) (by simp) ?_
  refine AllReadyH.cons rfl (fun K hK => ?_) AllReadyH.nil
  go_simp
  refine (H8.out _ hb6).mono ?_
  rintro e v7 ⟨rfl, hd⟩
  have hb7 : Below W.heap.size W v7 := hb6.trans (hd.mono hb6.size)
  clear hd
  have x0 := (cellOf hb7 l0).trans e0
  have x1 := (cellOf hb7 l0).trans e1
  have x2 := (cellOf hb7 l1).trans e2
  have x3 := (cellOf hb7 l1).trans e3
  skip
  refine hK.out _ _ ⟨x0, x1, x2, x3⟩ (fun hHeld => ?_)
  clear hK K
  try simp only [Act.put, List.getElem_toArray, List.getElem_cons_zero, List.getElem_cons_succ, List.setIfInBounds_toArray, List.set_cons_zero, List.set_cons_succ]
  refine wpAnyH_take (i := 39) (v := .bool true) rfl (by kernel_rfl) (by kernel_rfl) (by kernel_rfl) (fun _ _ _ h => h) (.inl ⟨by rfl, fun V hV => by obtain ⟨c0, c1, c2, c3⟩ := hV; go_simp⟩) hHeld ?_
  try simp only [Act.put, List.getElem_toArray, List.getElem_cons_zero, List.getElem_cons_succ, List.setIfInBounds_toArray, List.set_cons_zero, List.set_cons_succ]
  refine wpAnyH_take (i := 40) (v := .bool true) rfl (by kernel_rfl) (by kernel_rfl) (by kernel_rfl) (fun _ _ _ h => h) (.inl ⟨by rfl, fun V hV => by obtain ⟨c0, c1, c2, c3⟩ := hV; go_simp⟩) hHeld ?_
  try simp only [Act.put, List.getElem_toArray, List.getElem_cons_zero, List.getElem_cons_succ, List.setIfInBounds_toArray, List.set_cons_zero, List.set_cons_succ]
  refine wpAnyH_take (i := 41) (v := .bool true) rfl (by kernel_rfl) (by kernel_rfl) (by kernel_rfl) (fun _ _ _ h => h) (.inl ⟨by rfl, fun V hV => by obtain ⟨c0, c1, c2, c3⟩ := hV; go_simp⟩) hHeld ?_
  try simp only [Act.put, List.getElem_toArray, List.getElem_cons_zero, List.getElem_cons_succ, List.setIfInBounds_toArray, List.set_cons_zero, List.set_cons_succ]
  refine wpAnyH_take (i := 42) (v := .agg #[.bool st, .slice A m c0]) rfl (by kernel_rfl) (by kernel_rfl) (by kernel_rfl) (fun _ _ _ h => h) (.inl ⟨by rfl, fun V hV => by obtain ⟨c0, c1, c2, c3⟩ := hV; go_simp⟩) hHeld ?_
  try simp only [Act.put, List.getElem_toArray, List.getElem_cons_zero, List.getElem_cons_succ, List.setIfInBounds_toArray, List.set_cons_zero, List.set_cons_succ]
  refine wpAnyH_take (i := 43) (v := .agg #[.bool st2, .slice A2 m2 c1]) rfl (by kernel_rfl) (by kernel_rfl) (by kernel_rfl) (fun _ _ _ h => h) (.inl ⟨by rfl, fun V hV => by obtain ⟨c0, c1, c2, c3⟩ := hV; go_simp⟩) hHeld ?_
  try simp only [Act.put, List.getElem_toArray, List.getElem_cons_zero, List.getElem_cons_succ, List.setIfInBounds_toArray, List.set_cons_zero, List.set_cons_succ]
  refine wpAnyH_take (i := 45) (v := .agg #[.bool st, .slice A m c0]) rfl (by kernel_rfl) (by kernel_rfl) (by kernel_rfl) (fun _ _ _ h => h) (.inl ⟨by rfl, fun V hV => by obtain ⟨c0, c1, c2, c3⟩ := hV; go_simp⟩) hHeld ?_
  try simp only [Act.put, List.getElem_toArray, List.getElem_cons_zero, List.getElem_cons_succ, List.setIfInBounds_toArray, List.set_cons_zero, List.set_cons_succ]
  refine wpAnyH_take (i := 46) (v := .agg #[.bool st2, .slice A2 m2 c1]) rfl (by kernel_rfl) (by kernel_rfl) (by kernel_rfl) (fun _ _ _ h => h) (.inl ⟨by rfl, fun V hV => by obtain ⟨c0, c1, c2, c3⟩ := hV; go_simp⟩) hHeld ?_
  try simp only [Act.put, List.getElem_toArray, List.getElem_cons_zero, List.getElem_cons_succ, List.setIfInBounds_toArray, List.set_cons_zero, List.set_cons_succ]
  refine wpAnyH_ready (rs := [44]) (by kernel_rfl) (by simp) ?_
  refine AllReadyH.cons rfl (fun K hK => ?_) AllReadyH.nil
  go_simp
  refine (H9.out _ hb7).mono ?_
  rintro e v8 ⟨rfl, hd⟩
  have hb8 : Below W.heap.size W v8 := hb7.trans (hd.mono hb7.size)
  clear hd
  have x0 := (cellOf hb8 l0).trans e0
  have x1 := (cellOf hb8 l0).trans e1
  have x2 := (cellOf hb8 l1).trans e2
  have x3 := (cellOf hb8 l1).trans e3
  skip
  refine hK.out _ _ ⟨x0, x1, x2, x3⟩ (fun hHeld => ?_)
  clear hK K
  try simp only [Act.put, List.getElem_toArray, List.getElem_cons_zero, List.getElem_cons_succ, List.setIfInBounds_toArray, List.set_cons_zero, List.set_cons_succ]
  refine wpAnyH_ready (rs := [47]) (by kernel_rfl) (by simp) ?_
  refine AllReadyH.cons rfl (fun K hK => ?_) AllReadyH.nil
  go_simp
  refine (H10.out _ hb8).mono ?_
  rintro e v9 ⟨rfl, hd⟩
  have hb9 : Below W.heap.size W v9 := hb8.trans (hd.mono hb8.size)
  clear hd
  have x0 := (cellOf hb9 l0).trans e0
  have x1 := (cellOf hb9 l0).trans e1
  have x2 := (cellOf hb9 l1).trans e2
  have x3 := (cellOf hb9 l1).trans e3
  skip
  refine hK.out _ _ ⟨x0, x1, x2, x3⟩ (fun hHeld => ?_)
  clear hK K
  try simp only [Act.put, List.getElem_toArray, List.getElem_cons_zero, List.getElem_cons_succ, List.setIfInBounds_toArray, List.set_cons_zero, List.set_cons_succ]
  refine wpAnyH_take (i := 48) (v := .bool true) rfl (by kernel_rfl) (by kernel_rfl) (by kernel_rfl) (fun _ _ _ h => h) (.inl ⟨by rfl, fun V hV => by obtain ⟨c0, c1, c2, c3⟩ := hV; go_simp⟩) hHeld ?_
  try simp only [Act.put, List.getElem_toArray, List.getElem_cons_zero, List.getElem_cons_succ, List.setIfInBounds_toArray, List.set_cons_zero, List.set_cons_succ]
  refine wpAnyH_take (i := 49) (v := .bool true) rfl (by kernel_rfl) (by kernel_rfl) (by kernel_rfl) (fun _ _ _ h => h) (.inl ⟨by rfl, fun V hV => by obtain ⟨c0, c1, c2, c3⟩ := hV; go_simp⟩) hHeld ?_
  try simp only [Act.put, List.getElem_toArray, List.getElem_cons_zero, List.getElem_cons_succ, List.setIfInBounds_toArray, List.set_cons_zero, List.set_cons_succ]
  refine wpAnyH_take (i := 50) (v := .bool true) rfl (by kernel_rfl) (by kernel_rfl) (by kernel_rfl) (fun _ _ _ h => h) (.inl ⟨by rfl, fun V hV => by obtain ⟨c0, c1, c2, c3⟩ := hV; go_simp⟩) hHeld ?_
  try simp only [Act.put, List.getElem_toArray, List.getElem_cons_zero, List.getElem_cons_succ, List.setIfInBounds_toArray, List.set_cons_zero, List.set_cons_succ]
  refine wpAnyH_take (i := 51) (v := .agg #[.bool st, .slice A m c0]) rfl (by kernel_rfl) (by kernel_rfl) (by kernel_rfl) (fun _ _ _ h => h) (.inl ⟨by rfl, fun V hV => by obtain ⟨c0, c1, c2, c3⟩ := hV; go_simp⟩) hHeld ?_
  try simp only [Act.put, List.getElem_toArray, List.getElem_cons_zero, List.getElem_cons_succ, List.setIfInBounds_toArray, List.set_cons_zero, List.set_cons_succ]
  refine wpAnyH_take (i := 52) (v := .agg #[.bool st, .slice A m c0]) rfl (by kernel_rfl) (by kernel_rfl) (by kernel_rfl) (fun _ _ _ h => h) (.inl ⟨by rfl, fun V hV => by obtain ⟨c0, c1, c2, c3⟩ := hV; go_simp⟩) hHeld ?_
  try simp only [Act.put, List.getElem_toArray, List.getElem_cons_zero, List.getElem_cons_succ, List.setIfInBounds_toArray, List.set_cons_zero, List.set_cons_succ]
  refine wpAnyH_ready (rs := [53]) (by kernel_rfl) (by simp) ?_
  refine AllReadyH.cons rfl (fun K hK => ?_) AllReadyH.nil
  go_simp
  refine (H11.out _ hb9).mono ?_
  rintro e v10 ⟨rfl, hd⟩
  have hb10 : Below W.heap.size W v10 := hb9.trans (hd.mono hb9.size)
  clear hd
  have x0 := (cellOf hb10 l0).trans e0
  have x1 := (cellOf hb10 l0).trans e1
  have x2 := (cellOf hb10 l1).trans e2
  have x3 := (cellOf hb10 l1).trans e3
  skip
  refine hK.out _ _ ⟨x0, x1, x2, x3⟩ (fun hHeld => ?_)
  clear hK K
  try simp only [Act.put, List.getElem_toArray, List.getElem_cons_zero, List.getElem_cons_succ, List.setIfInBounds_toArray, List.set_cons_zero, List.set_cons_succ]
  refine wpAnyH_take (i := 54) (v := .bool true) rfl (by kernel_rfl) (by kernel_rfl) (by kernel_rfl) (fun _ _ _ h => h) (.inl ⟨by rfl, fun V hV => by obtain ⟨c0, c1, c2, c3⟩ := hV; go_simp⟩) hHeld ?_
  try simp only [Act.put, List.getElem_toArray, List.getElem_cons_zero, List.getElem_cons_succ, List.setIfInBounds_toArray, List.set_cons_zero, List.set_cons_succ]
  refine wpAnyH_take (i := 55) (v := .bool true) rfl (by kernel_rfl) (by kernel_rfl) (by kernel_rfl) (fun _ _ _ h => h) (.inl ⟨by rfl, fun V hV => by obtain ⟨c0, c1, c2, c3⟩ := hV; go_simp⟩) hHeld ?_
  try simp only [Act.put, List.getElem_toArray, List.getElem_cons_zero, List.getElem_cons_succ, List.setIfInBounds_toArray, List.set_cons_zero, List.set_cons_succ]
  refine wpAnyH_done (by kernel_rfl) ?_ _
  refine NoPanic.normal ?_
  have hfin : Below w.heap.size w v10 := hB8.trans (hb10.mono hB8.size)
  clear hb hb0 hb1 hb2 hb3 hb4 hb5 hb6 hb7 hb9 hb10
  go_wp2_with fail
  go_ret
  exact ⟨rfl, hfin⟩
end Go.Vir
