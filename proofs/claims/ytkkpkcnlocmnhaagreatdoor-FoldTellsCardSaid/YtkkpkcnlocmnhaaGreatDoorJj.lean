/- Joined texts: Lay, Ovp, Ovr, PrD. -/
import Derived.Test.YtkkpkcnlocmnhaaGreatDoorJi
import Derived.Test.YtkkpkcnlocmnhaaGreatDoorJh
import Derived.Test.YtkkpkcnlocmnhaaGreatDoorJc
import Derived.Test.YtkkpkcnlocmnhaaGreatDoorJd
import Derived.Test.YtkkpkcnlocmnhaaGreatDoorJg
import Derived.Deep.RegionLaw
namespace Go.Vir
open Go Go.RowKit Go.Proofs Go.Shelf
attribute [local go_sem] Oper.semAt_some

def AddR (w : World) (F Y : Nat) (lv v : Value) (out : List Rg) (v' : Value) (w' : World) : Prop :=
  w'.heap[Y]? = some (.cells #[lv, v'] 290 (0, 0)) ∧ w'.ownsRow F 139 3 v' out.length (rgVs out) ∧ w'.os = w.os ∧ w'.tape = w.tape ∧ w'.output = w.output ∧ w.heap.size ≤ w'.heap.size ∧
    (∀ k, k < w.heap.size → k ≠ Y → some k ≠ v.ownBlock → w'.heap[k]? = w.heap[k]?)
theorem add_fin {w W w8 : World} {F Y m : Nat} {lv v v' : Value} {out : List Rg} {x : Rg} (h8 : w8.ownsRow F 139 3 v' (m + 1) (rgVs out ++ [.int .i64 x.f, .int .i64 x.t, .int .i64 x.v]))
    (hW : Below w.heap.size w W) (hY8 : w8.heap[Y]? = some (.cells #[lv, v] 290 (0, 0)))
    (hg : W.grownBy w8 v.ownBlock) (hm : out.length = m) : AddR w F Y lv v (out ++ [x]) v' (w8.setCell ⟨Y, 1, none⟩ v') := by
  refine ⟨by simpa using setCell_blk hY8 1 v', ?_, hg.os.trans hW.os, hg.tape.trans hW.tape, hg.output.trans hW.output, ?_, fun k hk hne hnv => ?_⟩
  · rw [List.length_append, rgVs_app]
    simp only [List.length_cons, List.length_nil, hm]
    exact h8.kept (grownBy_setCell2 w8 Y 1 v') (.inr (blk_not_row hY8 (by decide) h8).symm)
  · have h1 := hg.size
    have h2 := hW.size
    simp [World.setCell] at h1 ⊢
    omega
  · have h2 := hW.size
    exact (Below.heap_setCell _ _ _ _ hne).trans ((hg.block k (by omega) hnv).trans (hW.block k hk))

set_option maxRecDepth 100000 in
set_option maxHeartbeats 4000000 in
theorem layer_add (F Y : Nat) (lv v0 : Value) (out : List Rg) (x : Rg) (w : World) (hY : w.heap[Y]? = some (.cells #[lv, v0] 290 (0, 0))) (hFW : F ≤ w.heap.size) (hYF : Y < F)
    (hrow : w.ownsRow F 139 3 v0 out.length (rgVs out)) (hnil : out = [] → v0 = .slice none 0 0) (hout : ∀ y ∈ out, 0 ≤ y.t ∧ y.t ≤ 1114111) (hn : out.length ≤ 4000) :
    Calls Tryz.prog 207 #[.pointer (some ⟨Y, 0, none⟩), .agg #[.int .i64 x.f, .int .i64 x.t, .int .i64 x.v]] w fun e w' => e = .returned (.tuple #[]) ∧ ∃ v', AddR w F Y lv v0 (addR out x) v' w' := by
  obtain ⟨i0, hi0, hz0, hz1, hz2⟩ := info_parts rg_info
  have hYl : Y < w.heap.size := (Array.getElem?_eq_some_iff.1 hY).1
  have hYn : ¬ Y = w.heap.size := by omega
  obtain ⟨f, t, v⟩ := x
  simp only
  have hWa : (w.alloc (.cells #[.int .i64 f, .int .i64 t, .int .i64 v] 139)).heap[w.heap.size]? = some (.cells #[.int .i64 f, .int .i64 t, .int .i64 v] 139 (0, 0)) := heap_new rfl
  have hbA : Below w.heap.size w (w.alloc (.cells #[.int .i64 f, .int .i64 t, .int .i64 v] 139)) := by go_grown
  have hsA : (w.alloc (.cells #[.int .i64 f, .int .i64 t, .int .i64 v] 139)).heap.size = w.heap.size + 1 := by simp
  have HrowA := Lib.hid (hrow.alloc (.cells #[.int .i64 f, .int .i64 t, .int .i64 v] 139))
  have HYA := Lib.hid ((hbA.block Y hYl).trans hY)
  have hYc : w.cell? ⟨Y, 1, none⟩ = some v0 := cell_blk hY 1

  rcases List.eq_nil_or_concat out with rfl | ⟨o, y, rfl⟩
  · obtain rfl := hnil rfl
    clear hrow hY hout hnil
    go_enter Tryz.func207, Tryz.ntmps207
    go_upto_region 2 with fail
    go_quiet (fail)
    have HWw : Hid (Below w.heap.size w ((w.alloc (.cells #[.int .i64 f, .int .i64 t, .int .i64 v] 139)).drewN nq)) := Lib.hid (hbA.trans ((below_drewN _ _ _).mono hbA.size))
    have HY1 : Hid (((w.alloc (.cells #[.int .i64 f, .int .i64 t, .int .i64 v] 139)).drewN nq).heap[Y]? = some (.cells #[lv, .slice none 0 0] 290 (0, 0))) := Lib.hid (((below_drewN (w.heap.size + 1) _ _).block Y (by omega)).trans HYA.out)
    have Hrow1 := Lib.hid (ownsRow_below HrowA.out (below_drewN _ _ nq))
    have hq1 := ((below_drewN (w.heap.size + 1) (w.alloc (.cells #[.int .i64 f, .int .i64 t, .int .i64 v] 139)) nq).block w.heap.size (by omega)).trans hWa
    have hsW : ((w.alloc (.cells #[.int .i64 f, .int .i64 t, .int .i64 v] 139)).drewN nq).heap.size = w.heap.size + 1 := hsA
    generalize (w.alloc (.cells #[.int .i64 f, .int .i64 t, .int .i64 v] 139)).drewN nq = W at *
    have d0 : W.cell? ⟨w.heap.size, 0, none⟩ = some (.int .i64 f) := cell_blk hq1 0
    have d1 : W.cell? ⟨w.heap.size, 1, none⟩ = some (.int .i64 t) := cell_blk hq1 1
    have d2 : W.cell? ⟨w.heap.size, 2, none⟩ = some (.int .i64 v) := cell_blk hq1 2
    have dY : W.cell? ⟨Y, 1, none⟩ = some (.slice none 0 0) := cell_blk HY1.out 1
    clear hWa hbA hsA HYA HrowA hq1 hYc
    go_upto_region 4 with fail
    go_region_law
      ((
        refine step_append_where rfl (.tmp 55) (.tmp 57) 93 rfl F 139 i0 (.agg #[.int .i64 0, .int .i64 0, .int .i64 0]) 3 24 Tryz.underlying93 hi0 hz0 hz1 hz2 rfl (by decide) _ 0 ([]) (by simp [Act.eval]) (Hrow1.out.alloc _) ⟨W.heap.size, 0, none⟩ 1 1 [.int .i64 f, .int .i64 t, .int .i64 v] (by simp [Act.eval]) rfl (cell_three_new W _ _ _ _) (by intro u hu; simp at hu; rcases hu with rfl | rfl | rfl <;> rfl) (by simp only [maxLen]; omega) (by omega) (by simp; omega) ?_
        intro v' w8 hown8 hgrow hat
        obtain ⟨g8, cap8, rfl⟩ := ownsRow_succ hown8
        have hY8 := (hgrow.block Y (by simp; omega) (fun e => by have := (row_data Hrow1.out Y e.symm).1; omega)).trans ((heap_old (by show Y < W.heap.size; omega)).trans HY1.out)
        have c1' := cell_blk hY8 1
        have c2' := frozen_blk hY8 1
        simp only [List.getElem?_toArray, List.getElem?_cons_zero, List.getElem?_cons_succ] at c1'))
    all_goals
      go_wp2_with fail
      go_end0
      have hfin := add_fin (out := []) (x := { f := f, t := t, v := v }) (h8 := hown8) (HWw.out.trans (Below.mono (show Below W.heap.size W _ by go_grown) (by omega))) hY8 hgrow rfl
      exact ⟨rfl, _, hfin⟩
  · rw [List.concat_eq_append] at hrow HrowA hn hout hnil ⊢
    obtain ⟨m, hm⟩ : ∃ m, m = o.length := ⟨_, rfl⟩
    have hlm : (o ++ [y]).length = m + 1 := by rw [hm]; simp
    rw [hlm] at hrow HrowA hn
    have hyt := hout y (by simp)
    rcases hrow.2 with ⟨_, h⟩ | ⟨g, cap, cur, rfl, hg, hgb, hcap, hcm, hcs, ht⟩
    · omega
    obtain ⟨p1, p2, p3⟩ := rgVs_get (o ++ [y]) m (by omega)
    have hget : (o ++ [y])[m]'(by omega) = y := by simp [hm]
    rw [hget, ← ht, List.getElem?_take, if_pos (by omega), Array.getElem?_toList] at p1 p2 p3
    obtain ⟨yf, yt, yv⟩ := y
    simp only at p1 p2 p3 hyt
    have hgl : g < w.heap.size := (Array.getElem?_eq_some_iff.1 hgb).1
    have z1 : w.cell? ⟨g, m * 3 + 1, none⟩ = some (.int .i64 yt) := (cell_blk hgb _).trans p2
    have z2 : w.cell? ⟨g, m * 3 + 2, none⟩ = some (.int .i64 yv) := (cell_blk hgb _).trans p3
    have hgn : ¬ g = w.heap.size := by omega
    have hov : ¬ (9223372036854775807 < yt + 1) := by omega
    have Hgb := Lib.hid hgb
    have Ht := Lib.hid ht
    have Hcs := Lib.hid hcs
    have Hm := Lib.hid hm
    have Hg := Lib.hid hg
    have Hlm := Lib.hid hlm
    clear hrow hY hout hnil hgb ht hcs hm p1 p2 p3 hget hlm
    by_cases h1 : yt + 1 = f
    · have e1 : ((yt + 1) == f) = true := by simpa using h1
      have K1 := Lib.hid h1
      clear h1
      by_cases h2 : yv = v
      · have e2 : (yv == v) = true := by simpa using h2
        have K2 := Lib.hid h2
        clear h2
        go_enter Tryz.func207, Tryz.ntmps207
        go_upto_region 2 with fail
        go_quiet (fail)
        have HWw : Hid (Below w.heap.size w ((w.alloc (.cells #[.int .i64 f, .int .i64 t, .int .i64 v] 139)).drewN nq)) := Lib.hid (hbA.trans ((below_drewN _ _ _).mono hbA.size))
        have HY1 : Hid (((w.alloc (.cells #[.int .i64 f, .int .i64 t, .int .i64 v] 139)).drewN nq).heap[Y]? = some (.cells #[lv, .slice (some ⟨g, 0, none⟩) (m + 1) cap] 290 (0, 0))) := Lib.hid (((below_drewN (w.heap.size + 1) _ _).block Y (by omega)).trans HYA.out)
        have Hrow1 := Lib.hid (ownsRow_below HrowA.out (below_drewN _ _ nq))
        have hq1 := ((below_drewN (w.heap.size + 1) (w.alloc (.cells #[.int .i64 f, .int .i64 t, .int .i64 v] 139)) nq).block w.heap.size (by omega)).trans hWa
        have hsW : ((w.alloc (.cells #[.int .i64 f, .int .i64 t, .int .i64 v] 139)).drewN nq).heap.size = w.heap.size + 1 := hsA
        generalize (w.alloc (.cells #[.int .i64 f, .int .i64 t, .int .i64 v] 139)).drewN nq = W at *
        have d0 : W.cell? ⟨w.heap.size, 0, none⟩ = some (.int .i64 f) := cell_blk hq1 0
        have d1 : W.cell? ⟨w.heap.size, 1, none⟩ = some (.int .i64 t) := cell_blk hq1 1
        have d2 : W.cell? ⟨w.heap.size, 2, none⟩ = some (.int .i64 v) := cell_blk hq1 2
        have dY : W.cell? ⟨Y, 1, none⟩ = some (.slice (some ⟨g, 0, none⟩) (m + 1) cap) := cell_blk HY1.out 1
        have hgW := (HWw.out.block g hgl).trans Hgb.out
        have s0 := dY
        have s1 := d1
        have s2 : W.cell? ⟨g, m * 3 + 1, none⟩ = some (.int .i64 yt) := (cellOf HWw.out hgl).trans z1
        have s3 : W.frozen? ⟨g, m * 3 + 1, none⟩ = false := frozen_blk hgW _
        have hYg : ¬ Y = g := by have := Hg.out; omega
        have hwm : IntKind.i64.wrap (m : Int) = (m : Int) := by simp [IntKind.wrap, IntKind.bits, IntKind.signed]; omega
        clear hWa hbA hsA HYA HrowA hq1 hYc z1 z2
        go_upto_region 3 with fail
        generalize hq : w.heap.size = q at *
        refine wp_region_noPanic ?_
        refine wp_region_held_drew (S := (fun V => V.cell? ⟨Y, 1, none⟩ = some (.slice (some ⟨g, 0, none⟩) (m + 1) cap) ∧ V.cell? ⟨q, 1, none⟩ = some (.int .i64 t))) (by kernel_rfl) ⟨s0, s1⟩ (fun hHeld => ?_)
        refine wpAnyH_take (i := 0) (v := .pointer (some ⟨Y, 0, none⟩)) rfl (by kernel_rfl) (by kernel_rfl) (by kernel_rfl) (fun _ _ _ h => h) (.inl ⟨by rfl, fun V hV => by obtain ⟨c0, c1⟩ := hV; go_simp⟩) hHeld ?_
        try simp only [Act.put, qB, qC, qE, qF, qG]
        refine wpAnyH_take (i := 1) (v := .pointer (some ⟨Y, 0, none⟩)) rfl (by kernel_rfl) (by kernel_rfl) (by kernel_rfl) (fun _ _ _ h => h) (.inl ⟨by rfl, fun V hV => by obtain ⟨c0, c1⟩ := hV; go_simp⟩) hHeld ?_
        try simp only [Act.put, qB, qC, qD, qE, qF, qG]
        refine wpAnyH_take (i := 2) (v := .pointer (some ⟨Y, 1, none⟩)) rfl (by kernel_rfl) (by kernel_rfl) (by kernel_rfl) (fun _ _ _ h => h) (.inl ⟨by rfl, fun V hV => by obtain ⟨c0, c1⟩ := hV; go_simp⟩) hHeld ?_
        try simp only [Act.put, qB, qC, qD, qE, qF, qG]
        refine wpAnyH_take (i := 3) (v := .slice (some ⟨g, 0, none⟩) (m + 1) cap) rfl (by kernel_rfl) (by kernel_rfl) (by kernel_rfl) (fun _ _ _ h => h) (.inl ⟨by rfl, fun V hV => by obtain ⟨c0, c1⟩ := hV; go_simp⟩) hHeld ?_
        try simp only [Act.put, qB, qC, qD, qE, qF, qG]
        refine wpAnyH_take (i := 4) (v := .int .i64 ((m : Int) + 1)) rfl (by kernel_rfl) (by kernel_rfl) (by kernel_rfl) (fun _ _ _ h => h) (.inl ⟨by rfl, fun V hV => by obtain ⟨c0, c1⟩ := hV; go_simp⟩) hHeld ?_
        try simp only [Act.put, qB, qC, qD, qE, qF, qG]
        refine wpAnyH_take (i := 5) (v := .int .i64 (m : Int)) rfl (by kernel_rfl) (by kernel_rfl) (by kernel_rfl) (fun _ _ _ h => h) (.inl ⟨by rfl, fun V hV => by obtain ⟨c0, c1⟩ := hV; go_simp⟩) hHeld ?_
        try simp only [Act.put, qB, qC, qD, qE, qF, qG]
        refine wpAnyH_take (i := 6) (v := .pointer (some ⟨q, 1, none⟩)) rfl (by kernel_rfl) (by kernel_rfl) (by kernel_rfl) (fun _ _ _ h => h) (.inl ⟨by rfl, fun V hV => by obtain ⟨c0, c1⟩ := hV; go_simp⟩) hHeld ?_
        try simp only [Act.put, qB, qC, qD, qE, qF, qG]
        refine wpAnyH_take (i := 7) (v := .int .i64 t) rfl (by kernel_rfl) (by kernel_rfl) (by kernel_rfl) (fun _ _ _ h => h) (.inl ⟨by rfl, fun V hV => by obtain ⟨c0, c1⟩ := hV; go_simp⟩) hHeld ?_
        try simp only [Act.put, qB, qC, qD, qE, qF, qG]
        refine wpAnyH_take (i := 8) (v := .pointer (some ⟨g, m * 3, none⟩)) rfl (by kernel_rfl) (by kernel_rfl) (by kernel_rfl) (fun _ _ _ h => h) (.inl ⟨by rfl, fun V hV => by obtain ⟨c0, c1⟩ := hV; go_simp; intro hx; omega⟩) hHeld ?_
        try simp only [Act.put, qB, qC, qD, qE, qF, qG]
        refine wpAnyH_take (i := 9) (v := .pointer (some ⟨g, m * 3 + 1, none⟩)) rfl (by kernel_rfl) (by kernel_rfl) (by kernel_rfl) (fun _ _ _ h => h) (.inl ⟨by rfl, fun V hV => by obtain ⟨c0, c1⟩ := hV; go_simp⟩) hHeld ?_
        try simp only [Act.put, qB, qC, qD, qE, qF, qG]
        refine wpAnyH_ready (rs := [10]) (by kernel_rfl) (by simp) ?_
        refine AllReadyH.cons rfl (fun K hK => ?_) AllReadyH.nil
        go_simp
        have hs0 : (W.setCell ⟨g, m * 3 + 1, none⟩ (.int .i64 t)).drew.cell? ⟨Y, 1, none⟩ = some (.slice (some ⟨g, 0, none⟩) (m + 1) cap) := (World.cell?_setCell_other _ _ _ _ (by simp <;> omega)).trans s0
        have hs1 : (W.setCell ⟨g, m * 3 + 1, none⟩ (.int .i64 t)).drew.cell? ⟨q, 1, none⟩ = some (.int .i64 t) := (World.cell?_setCell_other _ _ _ _ (by simp <;> omega)).trans s1
        refine hK.out _ _ ⟨hs0, hs1⟩ (fun hHeld => ?_)
        clear hK K
        try simp only [Act.put, qB, qC, qD, qE, qF, qG]
        refine wpAnyH_done (by kernel_rfl) ?_ _
        refine NoPanic.normal ?_

        go_wp2_with fail
        (try simp only [Exit.inBlock, Exit.then]); refine bodyPost_ret (results_none rfl _ _ _) rfl ?_
        subst hq
        have hgF : (W.setCell ⟨g, m * 3 + 1, none⟩ (.int .i64 t)).drew.heap[g]? = some (.cells (cur.setIfInBounds (m * 3 + 1) (.int .i64 t)) 139 (0, 0)) := setCell_blk hgW _ _
        have hYF2 : (W.setCell ⟨g, m * 3 + 1, none⟩ (.int .i64 t)).drew.heap[Y]? = some (.cells #[lv, .slice (some ⟨g, 0, none⟩) (m + 1) cap] 290 (0, 0)) := (Below.heap_setCell _ _ _ _ hYg).trans HY1.out
        have hadd : addR (o ++ [{ f := yf, t := yt, v := yv }]) { f := f, t := t, v := v } = o ++ [{ f := yf, t := t, v := yv }] := by rw [add_snoc, if_pos ⟨K1.out, K2.out⟩]
        have hlast : (rgVs (o ++ [{ f := yf, t := yt, v := yv }])).set (m * 3 + 1) (.int .i64 t) = rgVs (o ++ [{ f := yf, t := t, v := yv }]) := by
          rw [rgVs_app, rgVs_app, List.set_append_right _ _ (by rw [rgVs_len, Hm.out]; omega), rgVs_len, Hm.out, show o.length * 3 + 1 - o.length * 3 = 1 by omega]
          rfl
        have hrowF : (W.setCell ⟨g, m * 3 + 1, none⟩ (.int .i64 t)).drew.ownsRow F 139 3 (.slice (some ⟨g, 0, none⟩) (m + 1) cap) (o ++ [({ f := yf, t := t, v := yv } : Rg)]).length (rgVs (o ++ [{ f := yf, t := t, v := yv }])) := by
          refine ⟨by rw [rgVs_len], .inr ⟨g, cap, _, ?_, Hg.out, hgF, ?_, hcm, ?_, ?_⟩⟩
          · rw [List.length_append, ← Hm.out]; rfl
          · rw [List.length_append, ← Hm.out]; exact hcap
          · rw [Array.size_setIfInBounds]; exact Hcs.out
          · rw [← hlast, ← Ht.out, List.length_append, ← Hm.out, Array.toList_setIfInBounds, List.take_set]
            rfl
        have hszF : w.heap.size ≤ (W.setCell ⟨g, m * 3 + 1, none⟩ (.int .i64 t)).drew.heap.size := by
          show w.heap.size ≤ (W.setCell _ _).heap.size
          simp [World.setCell]
          omega
        have hAdd : AddR w F Y lv (.slice (some ⟨g, 0, none⟩) (m + 1) cap) (o ++ [{ f := yf, t := t, v := yv }]) (.slice (some ⟨g, 0, none⟩) (m + 1) cap) (W.setCell ⟨g, m * 3 + 1, none⟩ (.int .i64 t)).drew :=
          ⟨hYF2, hrowF, HWw.out.os, HWw.out.tape, HWw.out.output, hszF, fun k hk hne hnv => (Below.heap_setCell _ _ _ _ (fun e => hnv (by rw [e]; rfl))).trans (HWw.out.block k hk)⟩
        exact ⟨rfl, _, by rw [hadd]; exact hAdd⟩
      · have e2 : (yv == v) = false := by simpa using h2
        have K2 := Lib.hid h2
        clear h2
        go_enter Tryz.func207, Tryz.ntmps207
        go_upto_region 2 with fail
        go_quiet (fail)
        have HWw : Hid (Below w.heap.size w ((w.alloc (.cells #[.int .i64 f, .int .i64 t, .int .i64 v] 139)).drewN nq)) := Lib.hid (hbA.trans ((below_drewN _ _ _).mono hbA.size))
        have HY1 : Hid (((w.alloc (.cells #[.int .i64 f, .int .i64 t, .int .i64 v] 139)).drewN nq).heap[Y]? = some (.cells #[lv, .slice (some ⟨g, 0, none⟩) (m + 1) cap] 290 (0, 0))) := Lib.hid (((below_drewN (w.heap.size + 1) _ _).block Y (by omega)).trans HYA.out)
        have Hrow1 := Lib.hid (ownsRow_below HrowA.out (below_drewN _ _ nq))
        have hq1 := ((below_drewN (w.heap.size + 1) (w.alloc (.cells #[.int .i64 f, .int .i64 t, .int .i64 v] 139)) nq).block w.heap.size (by omega)).trans hWa
        have hsW : ((w.alloc (.cells #[.int .i64 f, .int .i64 t, .int .i64 v] 139)).drewN nq).heap.size = w.heap.size + 1 := hsA
        generalize (w.alloc (.cells #[.int .i64 f, .int .i64 t, .int .i64 v] 139)).drewN nq = W at *
        have d0 : W.cell? ⟨w.heap.size, 0, none⟩ = some (.int .i64 f) := cell_blk hq1 0
        have d1 : W.cell? ⟨w.heap.size, 1, none⟩ = some (.int .i64 t) := cell_blk hq1 1
        have d2 : W.cell? ⟨w.heap.size, 2, none⟩ = some (.int .i64 v) := cell_blk hq1 2
        have dY : W.cell? ⟨Y, 1, none⟩ = some (.slice (some ⟨g, 0, none⟩) (m + 1) cap) := cell_blk HY1.out 1
        clear hWa hbA hsA HYA HrowA hq1 hYc z1 z2
        go_upto_region 4 with fail
        go_region_law
          ((
            refine step_append_where rfl (.tmp 55) (.tmp 57) 93 rfl F 139 i0 (.agg #[.int .i64 0, .int .i64 0, .int .i64 0]) 3 24 Tryz.underlying93 hi0 hz0 hz1 hz2 rfl (by decide) _ (m + 1) (rgVs (o ++ [({ f := yf, t := yt, v := yv } : Rg)])) (by simp [Act.eval]) (Hrow1.out.alloc _) ⟨W.heap.size, 0, none⟩ 1 1 [.int .i64 f, .int .i64 t, .int .i64 v] (by simp [Act.eval]) rfl (cell_three_new W _ _ _ _) (by intro u hu; simp at hu; rcases hu with rfl | rfl | rfl <;> rfl) (by simp only [maxLen]; omega) (by omega) (by simp; omega) ?_
            intro v' w8 hown8 hgrow hat
            obtain ⟨g8, cap8, rfl⟩ := ownsRow_succ hown8
            have hY8 := (hgrow.block Y (by simp; omega) (fun e => by have := (row_data Hrow1.out Y e.symm).1; omega)).trans ((heap_old (by show Y < W.heap.size; omega)).trans HY1.out)
            have c1' := cell_blk hY8 1
            have c2' := frozen_blk hY8 1
            simp only [List.getElem?_toArray, List.getElem?_cons_zero, List.getElem?_cons_succ] at c1'))
        all_goals
          go_wp2_with fail
          go_end0
          have hfin := add_fin (out := o ++ [({ f := yf, t := yt, v := yv } : Rg)]) (x := { f := f, t := t, v := v }) (h8 := hown8) (HWw.out.trans (Below.mono (show Below W.heap.size W _ by go_grown) (by omega))) hY8 hgrow Hlm.out
          exact ⟨rfl, _, by rw [add_snoc, if_neg (fun h => K2.out h.2)]; simpa using hfin⟩
    · have e1 : ((yt + 1) == f) = false := by simpa using h1
      have K1 := Lib.hid h1
      clear h1
      go_enter Tryz.func207, Tryz.ntmps207
      go_upto_region 2 with fail
      go_quiet (fail)
      have HWw : Hid (Below w.heap.size w ((w.alloc (.cells #[.int .i64 f, .int .i64 t, .int .i64 v] 139)).drewN nq)) := Lib.hid (hbA.trans ((below_drewN _ _ _).mono hbA.size))
      have HY1 : Hid (((w.alloc (.cells #[.int .i64 f, .int .i64 t, .int .i64 v] 139)).drewN nq).heap[Y]? = some (.cells #[lv, .slice (some ⟨g, 0, none⟩) (m + 1) cap] 290 (0, 0))) := Lib.hid (((below_drewN (w.heap.size + 1) _ _).block Y (by omega)).trans HYA.out)
      have Hrow1 := Lib.hid (ownsRow_below HrowA.out (below_drewN _ _ nq))
      have hq1 := ((below_drewN (w.heap.size + 1) (w.alloc (.cells #[.int .i64 f, .int .i64 t, .int .i64 v] 139)) nq).block w.heap.size (by omega)).trans hWa
      have hsW : ((w.alloc (.cells #[.int .i64 f, .int .i64 t, .int .i64 v] 139)).drewN nq).heap.size = w.heap.size + 1 := hsA
      generalize (w.alloc (.cells #[.int .i64 f, .int .i64 t, .int .i64 v] 139)).drewN nq = W at *
      have d0 : W.cell? ⟨w.heap.size, 0, none⟩ = some (.int .i64 f) := cell_blk hq1 0
      have d1 : W.cell? ⟨w.heap.size, 1, none⟩ = some (.int .i64 t) := cell_blk hq1 1
      have d2 : W.cell? ⟨w.heap.size, 2, none⟩ = some (.int .i64 v) := cell_blk hq1 2
      have dY : W.cell? ⟨Y, 1, none⟩ = some (.slice (some ⟨g, 0, none⟩) (m + 1) cap) := cell_blk HY1.out 1
      clear hWa hbA hsA HYA HrowA hq1 hYc z1 z2
      go_upto_region 4 with fail
      go_region_law
        ((
          refine step_append_where rfl (.tmp 55) (.tmp 57) 93 rfl F 139 i0 (.agg #[.int .i64 0, .int .i64 0, .int .i64 0]) 3 24 Tryz.underlying93 hi0 hz0 hz1 hz2 rfl (by decide) _ (m + 1) (rgVs (o ++ [({ f := yf, t := yt, v := yv } : Rg)])) (by simp [Act.eval]) (Hrow1.out.alloc _) ⟨W.heap.size, 0, none⟩ 1 1 [.int .i64 f, .int .i64 t, .int .i64 v] (by simp [Act.eval]) rfl (cell_three_new W _ _ _ _) (by intro u hu; simp at hu; rcases hu with rfl | rfl | rfl <;> rfl) (by simp only [maxLen]; omega) (by omega) (by simp; omega) ?_
          intro v' w8 hown8 hgrow hat
          obtain ⟨g8, cap8, rfl⟩ := ownsRow_succ hown8
          have hY8 := (hgrow.block Y (by simp; omega) (fun e => by have := (row_data Hrow1.out Y e.symm).1; omega)).trans ((heap_old (by show Y < W.heap.size; omega)).trans HY1.out)
          have c1' := cell_blk hY8 1
          have c2' := frozen_blk hY8 1
          simp only [List.getElem?_toArray, List.getElem?_cons_zero, List.getElem?_cons_succ] at c1'))
      all_goals
        go_wp2_with fail
        go_end0
        have hfin := add_fin (out := o ++ [({ f := yf, t := yt, v := yv } : Rg)]) (x := { f := f, t := t, v := v }) (h8 := hown8) (HWw.out.trans (Below.mono (show Below W.heap.size W _ by go_grown) (by omega))) hY8 hgrow Hlm.out
        exact ⟨rfl, _, by rw [add_snoc, if_neg (fun h => K1.out h.1)]; simpa using hfin⟩
end Go.Vir


namespace Go.Vir
open Go

theorem add_mem : ∀ (l : List Rg) (x y : Rg), y ∈ addR l x → y ∈ l ∨ y.t = x.t := by
  intro l x y
  rcases List.eq_nil_or_concat l with rfl | ⟨o, z, rfl⟩
  · intro h
    rw [add_nil] at h
    simp only [List.mem_singleton] at h
    exact .inr (by rw [h])
  · rw [List.concat_eq_append, add_snoc]
    split
    · intro h
      rcases List.mem_append.1 h with h | h
      · exact .inl (List.mem_append_left _ h)
      · simp only [List.mem_singleton] at h
        exact .inr (by rw [h])
    · intro h
      simp at h
      rcases h with h | h | h
      · exact .inl (List.mem_append_left _ h)
      · exact .inl (by simp [h])
      · exact .inr (by rw [h])
theorem add_length (l : List Rg) (x : Rg) : (addR l x).length ≤ l.length + 1 := by
  rcases List.eq_nil_or_concat l with rfl | ⟨o, z, rfl⟩
  · rw [add_nil]; simp
  · rw [List.concat_eq_append, add_snoc]
    split <;> simp
theorem fold_bound {p : Int → Prop} : ∀ (xs acc : List Rg), (∀ y ∈ acc, p y.t) → (∀ x ∈ xs, p x.t) → ∀ y ∈ xs.foldl addR acc, p y.t
  | [], _, h, _ => h
  | x :: xs, acc, h, hx => by
    rw [List.foldl_cons]
    refine fold_bound xs _ (fun y hy => ?_) (fun z hz => hx z (List.mem_cons_of_mem _ hz))
    rcases add_mem acc x y hy with h1 | h1
    · exact h y h1
    · rw [h1]; exact hx x (List.mem_cons_self ..)
theorem fold_length : ∀ (xs acc : List Rg), (xs.foldl addR acc).length ≤ acc.length + xs.length
  | [], acc => by simp
  | x :: xs, acc => by
    rw [List.foldl_cons]
    have h1 := fold_length xs (addR acc x)
    have h2 := add_length acc x
    simp
    omega
def outS (L : List Rg) (ps : List (Int × Int)) (i : Nat) : List Rg := (saidL L (ps.take i)).foldl addR []
theorem outS_zero (L : List Rg) (ps : List (Int × Int)) : outS L ps 0 = [] := rfl
theorem outS_all (L : List Rg) (ps : List (Int × Int)) : outS L ps ps.length = (saidL L ps).foldl addR [] := by rw [outS, List.take_length]
theorem outS_none {L : List Rg} {ps : List (Int × Int)} {i : Nat} {a b : Int} (h : ps[i]? = some (a, b)) (hf : findR L a = none) : outS L ps (i + 1) = outS L ps i := by
  unfold outS saidL
  rw [List.take_add_one, h]
  simp [List.filterMap_append, hf]
theorem outS_some {L : List Rg} {ps : List (Int × Int)} {i : Nat} {a b v : Int} (h : ps[i]? = some (a, b)) (hf : findR L a = some v) : outS L ps (i + 1) = addR (outS L ps i) { f := a, t := b, v := v } := by
  unfold outS saidL
  rw [List.take_add_one, h]
  simp [List.filterMap_append, hf]
theorem outS_len (L : List Rg) (ps : List (Int × Int)) (i : Nat) : (outS L ps i).length ≤ i := by
  have h1 := fold_length (saidL L (ps.take i)) []
  have h2 : (saidL L (ps.take i)).length ≤ (ps.take i).length := List.length_filterMap_le _ _
  have h3 : (ps.take i).length ≤ i := by rw [List.length_take]; omega
  unfold outS
  simp at h1
  omega
theorem outS_bound {L : List Rg} {ps : List (Int × Int)} {p : Int → Prop} (h : ∀ x ∈ ps, p x.2) (i : Nat) : ∀ y ∈ outS L ps i, p y.t := by
  refine fold_bound _ _ (by simp) (fun x hx => ?_)
  unfold saidL at hx
  obtain ⟨q, hq, hx⟩ := List.mem_filterMap.1 hx
  rcases hf : findR L q.1 with _ | v
  · rw [hf] at hx; cases hx
  · rw [hf] at hx
    simp only [Option.map_some, Option.some.injEq] at hx
    rw [← hx]
    exact h q (List.mem_of_mem_take hq)
end Go.Vir


namespace Go.Vir
open Go Go.RowKit Go.Proofs Go.Shelf
attribute [local go_sem] Oper.semAt_some

def OvSt (w : World) (F Y : Nat) (lA : Option Addr) (ln lc : Nat) (L out : List Rg) (W : World) : Prop := ∃ v : Value,
  Below w.heap.size w W ∧ W.heap[Y + 1]? = some (.cells #[.pointer (some ⟨Y, 0, none⟩)] 285 (0, 0)) ∧ W.heap[Y]? = some (.cells #[.slice lA ln lc, v] 290 (0, 0)) ∧ F ≤ W.heap.size ∧
    Rgs W Y lA ln L ∧ W.ownsRow F 139 3 v out.length (rgVs out) ∧ (out = [] → v = .slice none 0 0)
theorem OvSt.below {w A B : World} {F Y ln lc : Nat} {lA : Option Addr} {L out : List Rg} (h : OvSt w F Y lA ln lc L out A) (hb : Below A.heap.size A B) : OvSt w F Y lA ln lc L out B := by
  obtain ⟨v, h1, h2, h3, h4, h5, h6, h7⟩ := h
  have hYl := (Array.getElem?_eq_some_iff.1 h3).1
  exact ⟨v, h1.trans (hb.mono h1.size), (hb.block (Y + 1) (Array.getElem?_eq_some_iff.1 h2).1).trans h2, (hb.block Y hYl).trans h3, Nat.le_trans h4 hb.size, h5.below (hb.mono (Nat.le_of_lt hYl)), ownsRow_below h6 hb, h7⟩
theorem cell_data {A B : World} {k o : Nat} {v : Value} (hd : ∀ ob, A.heap[k]? = some ob → isData ob = true → B.heap[k]? = some ob) (hc : A.cell? ⟨k, o, none⟩ = some v) : B.cell? ⟨k, o, none⟩ = some v := by
  rcases hb : A.heap[k]? with _ | ob
  · simp [World.cell?, hb] at hc
  · cases ob with
    | cells cs t m => exact (World.cell?_of_block (a := ⟨k, o, none⟩) ((hd _ hb rfl).trans hb.symm)).trans hc
    | _ => simp [World.cell?, hb] at hc
theorem Rgs.data {W W' : World} {B n : Nat} {A : Option Addr} {l : List Rg} (h : Rgs W B A n l) (hk : ∀ k o, k < B → W.heap[k]? = some o → isData o = true → W'.heap[k]? = some o) : Rgs W' B A n l :=
  ⟨h.len, fun hn => let ⟨b, o, e, hlt, hc⟩ := h.at_ hn; ⟨b, o, e, hlt, fun j hj => ⟨cell_data (fun ob => hk b ob hlt) (hc j hj).1, cell_data (fun ob => hk b ob hlt) (hc j hj).2.1, cell_data (fun ob => hk b ob hlt) (hc j hj).2.2⟩⟩⟩
theorem OvSt.moves {w A B : World} {F Y ln lc q kb : Nat} {lA : Option Addr} {L out : List Rg} (h : OvSt w F Y lA ln lc L out A) (hm : Moves w.heap.size (fun k => k = q ∨ k = kb) A B) (hw : w.heap.size ≤ Y) (hq : Y + 1 < q) (hk : Y + 1 < kb) (hqF : q < F) (hkF : kb < F) : OvSt w F Y lA ln lc L out B := by
  obtain ⟨v, h1, h2, h3, h4, h5, h6, h7⟩ := h
  refine ⟨v, Below.moves h1 hm (Nat.le_refl _) (fun k hk => by rcases hk with rfl | rfl <;> omega), hm.cells h2 (by omega), hm.cells h3 (by omega), Nat.le_trans h4 hm.size, h5.data (fun k o hk ho hd => hm.data k o ho hd (by omega)), ?_, h7⟩
  refine ownsRow_moves h6 hm (fun g hg e => ?_)
  have := (row_data h6 g hg).1
  rcases e with e | e <;> omega
theorem OvSt.added {w A B : World} {F Y ln lc : Nat} {lA : Option Addr} {L out out' : List Rg} {v v' : Value} (h : OvSt w F Y lA ln lc L out A) (hv : A.heap[Y]? = some (.cells #[.slice lA ln lc, v] 290 (0, 0))) (ha : AddR A F Y (.slice lA ln lc) v out' v' B) (hw : w.heap.size ≤ Y) (hYF : Y + 1 < F) (hne : out' ≠ []) :
    OvSt w F Y lA ln lc L out' B := by
  obtain ⟨u, h1, h2, h3, h4, h5, h6, h7⟩ := h
  rw [h3] at hv
  obtain rfl : u = v := by simpa using hv
  obtain ⟨a1, a2, a3, a4, a5, a6, a7⟩ := ha
  have h2l := (Array.getElem?_eq_some_iff.1 h2).1
  have hown : ∀ k, k ≤ Y + 1 → some k ≠ u.ownBlock := fun k hk e => by have := (row_data h6 k e.symm).1; omega
  have h1s := h1.size
  exact ⟨v', h1.trans ⟨a3, a4, a5, a6, fun k hk => a7 k (by omega) (by omega) (hown k (by omega))⟩, (a7 _ h2l (by omega) (hown _ (by omega))).trans h2, a1, Nat.le_trans h4 a6,
    h5.below ⟨a3, a4, a5, a6, fun k hk => a7 k (by omega) (by omega) (hown k (by omega))⟩, a2, fun e => absurd e hne⟩
theorem addR_ne (l : List Rg) (x : Rg) : addR l x ≠ [] := fun e => by
  rcases List.eq_nil_or_concat l with rfl | ⟨o, z, rfl⟩
  · rw [add_nil] at e; cases e
  · rw [List.concat_eq_append, add_snoc] at e
    split at e <;> simp at e

set_option maxRecDepth 100000 in
set_option maxHeartbeats 4000000 in
theorem span_Over (A : Option Addr) (n c : Nat) (l : List Rg) (w : World) (hx : Rgs w w.heap.size A n l) (hA : A = none → n = 0 ∧ c = 0) (hn : n ≤ 600) (hr : riseR (-1) l = true) :
    Calls Tryz.prog 179 #[.slice none 0 0, .slice A n c] w fun e w' => ∃ A' n' c', e = .returned (.tuple #[.slice A' n' c', .int .i64 0]) ∧ n' ≤ c' ∧ Rgs w' w'.heap.size A' n' (tightR l) ∧ Below w.heap.size w w' := by
  have hlen := hx.len
  have h1 : ∀ x ∈ l, oneR x = true := fun x hx => (rise_one hr x hx).1
  have hR0 := span_Right none 0 0 [] w (Rgs.nil _ _ _) (by omega) rfl
  have hR1 := fun (W : World) (hW : Below w.heap.size w W) => span_Right A n c l W ((hx.below hW).more hW.size) (by omega) hr
  have hd : decide ((n : Int) ≤ 600) = true := decide_eq_true (by omega)
  rw [hd] at hR1
  have HR0 := Lib.hid hR0
  have HR1 := Lib.hid hR1
  have Hx := Lib.hid hx
  have H1 := Lib.hid h1
  have Hr := Lib.hid hr
  have Hlen := Lib.hid hlen
  clear hR0 hR1 hx h1 hr hd hlen
  refine (callsIn_wide (n := 0)).1 ?_
  refine callsIn_of_wp_marks Tryz.func179 rfl trivial ?_ rfl
  simp only [Tryz.ntmps179, List.size_toArray, List.length_cons, List.length_nil, Nat.reduceAdd, Nat.reduceSub, Array.replicate_succ, Array.replicate_zero, List.push_toArray, List.append_toArray, List.nil_append, List.cons_append]
  refine wpIn_wide.2 ?_
  go_wp2_with fail
  refine HR0.out.mono ?_
  rintro e w1 ⟨rfl, hb1⟩
  go_wp2_with fail
  refine (HR1.out w1 hb1).mono ?_
  rintro e w2 ⟨rfl, hb2⟩
  have hbw2 := hb1.trans (hb2.mono hb1.size)
  have hbc := hbw2.alloc hbw2.size (.cells #[.slice A n c, .slice none 0 0] 93)
  have hcon := concat_rg w2.heap.size A n c l (w2.alloc (.cells #[.slice A n c, .slice none 0 0] 93)) ((Hx.out.below hbc).more hbc.size) hA hn (heap_new rfl)
  have Hcon := Lib.hid hcon
  clear hcon hb1 hb2
  go_wp2_with fail
  refine Hcon.out.mono ?_
  rintro e w4 ⟨lA, ln, lc, rfl, hrl, hb4⟩
  have hbw4 := hbc.trans (hb4.mono hbc.size)
  have hb5 : Below w4.heap.size w4 (((w4.alloc (.cells #[.slice lA ln lc, .slice none 0 0] 290)).alloc (.cells #[.pointer (some ⟨w4.heap.size, 0, none⟩)] 285)).alloc (.cells #[.slice none 0 0, .slice A n c] 93)) := by go_grown
  have hbw5 := hbw4.trans (hb5.mono hbw4.size)
  have hs5 : (((w4.alloc (.cells #[.slice lA ln lc, .slice none 0 0] 290)).alloc (.cells #[.pointer (some ⟨w4.heap.size, 0, none⟩)] 285)).alloc (.cells #[.slice none 0 0, .slice A n c] 93)).heap.size = w4.heap.size + 3 := by simp
  have hY5 : (((w4.alloc (.cells #[.slice lA ln lc, .slice none 0 0] 290)).alloc (.cells #[.pointer (some ⟨w4.heap.size, 0, none⟩)] 285)).alloc (.cells #[.slice none 0 0, .slice A n c] 93)).heap[w4.heap.size]? = some (.cells #[.slice lA ln lc, .slice none 0 0] 290 (0, 0)) := (heap_old (by simp; omega)).trans ((heap_old (by simp)).trans (heap_new rfl))
  have hYp5 : (((w4.alloc (.cells #[.slice lA ln lc, .slice none 0 0] 290)).alloc (.cells #[.pointer (some ⟨w4.heap.size, 0, none⟩)] 285)).alloc (.cells #[.slice none 0 0, .slice A n c] 93)).heap[w4.heap.size + 1]? = some (.cells #[.pointer (some ⟨w4.heap.size, 0, none⟩)] 285 (0, 0)) := (heap_old (by simp)).trans (heap_new (by simp))
  have htm := turns_make (w4.heap.size + 2) A n c l _ ((Hx.out.below hbw5).more hbw5.size) hn H1.out (show (((w4.alloc (.cells #[.slice lA ln lc, .slice none 0 0] 290)).alloc (.cells #[.pointer (some ⟨w4.heap.size, 0, none⟩)] 285)).alloc (.cells #[.slice none 0 0, .slice A n c] 93)).heap[w4.heap.size + 2]? = _ from heap_new (by simp))
  have Htm := Lib.hid htm
  have Hrl := Lib.hid (hrl.below hb5)
  clear htm hrl hb4 hbc
  go_wp2_with fail
  refine Htm.out.mono ?_
  generalize (((w4.alloc (.cells #[.slice lA ln lc, .slice none 0 0] 290)).alloc (.cells #[.pointer (some ⟨w4.heap.size, 0, none⟩)] 285)).alloc (.cells #[.slice none 0 0, .slice A n c] 93)) = w5 at *
  rintro e w6 ⟨q, kb, nk, ck, ks, rfl, hq, hkbl, hqb, hin, hnk, hks, hmem, hb6⟩
  have hkl := hin.len
  have h0 : 0 < nk := by rw [← hkl]; exact List.length_pos_of_mem ((hmem 0).2 ⟨by decide, .inl rfl⟩)
  obtain ⟨kb', ko, e, hkb, hkc⟩ := hin.at_ h0
  obtain ⟨rfl, rfl⟩ : kb = kb' ∧ 0 = ko := by simpa using e
  have hksb : ∀ y ∈ ks, 0 ≤ y ∧ y ≤ 1114111 := fun y hy => by
    obtain ⟨h1, h2 | ⟨x, hx, h2⟩⟩ := (hmem y).1 hy
    · omega
    · have := oneR_iff.1 (H1.out x hx)
      omega
  have hit := turns_iter w.heap.size q kb 0 nk ck ks w6 (Array.getElem?_eq_some_iff.1 hqb).1 hkb hnk hkl hksb hqb hkc
  have htl : tightR l = outS l (segL ks) nk := by rw [← hkl, ← seg_len, outS_all, tight_said Hr.out hks hmem]
  have hbw6 := hbw5.trans (hb6.mono hbw5.size)
  have hs6 := hb6.size
  have hst0 : OvSt w w6.heap.size w4.heap.size lA ln lc l (outS l (segL ks) 0) w6 :=
    ⟨.slice none 0 0, hbw6, (hb6.block _ (by omega)).trans hYp5, (hb6.block _ (by omega)).trans hY5, Nat.le_refl _, Hrl.out.below (hb6.mono (by omega)), by rw [outS_zero]; exact World.ownsRow_nil _ _ _ _, fun _ => rfl⟩
  have hsegb : ∀ x ∈ segL ks, 0 ≤ x.2 ∧ x.2 ≤ 1114111 := fun x hx => by
    obtain ⟨j, hj, rfl⟩ := List.getElem_of_mem hx
    rw [seg_len] at hj
    have := seg_get ks j hj
    rw [List.getElem?_eq_getElem (by rw [seg_len]; exact hj)] at this
    simp only [Option.some.injEq] at this
    rw [this]
    unfold lastS
    simp only
    split
    · rename_i h
      rw [List.getD_eq_getElem?_getD, List.getElem?_eq_getElem h, Option.getD_some]
      have h1 := hksb _ (List.getElem_mem h)
      have h2 := List.pairwise_iff_getElem.1 hks j (j + 1) hj h (by omega)
      have h3 := hksb _ (List.getElem_mem hj)
      omega
    · omega
  have hqlt : q < w6.heap.size := (Array.getElem?_eq_some_iff.1 hqb).1
  have hws : w.heap.size ≤ w4.heap.size := hbw4.size
  have hlnn : ln ≤ 600 := by have h1 := Hrl.out.len; have h2 := Hlen.out; omega
  have Hst0 := Lib.hid hst0
  have Htl := Lib.hid htl
  have Hit := Lib.hid hit
  have Hsegb := Lib.hid hsegb
  have Hkl := Lib.hid hkl
  clear hst0 htl hit hsegb hkl hks hmem hin hkc hqb hksb hY5 hYp5 e
  go_wp2_with fail
  refine (wpIn_wide (n := 0)).1 ?_
  refine range_law (a₁ := ?a1) (O := fun k => k = q ∨ k = kb) (B0 := w.heap.size) (W0 := w6) rfl (enters_of Tryz.func220 (by kernel_rfl) rfl) Hit.out (Below.refl _ _) (fun k hk => ?hO) hbw6.size (fun _ => rfl)
    (fun i W => OvSt w w6.heap.size w4.heap.size lA ln lc l (outS l (segL ks) i) W)
    (fun i c W => False)
    (fun i X Y hi hm => ?hI) (fun i c X Y hi hm => hi) Hst0.out ?assign ?body ?done ?stop
  case hO => rcases hk with rfl | rfl <;> assumption
  case hI => exact hi.moves hm hws (by omega) (by omega) hqlt hkb
  case assign =>
    intro l i W K hK
    gi_wp2
    exact hK
  case body =>
    rintro lp i W hi hst hsW
    have hseg : (segL ks)[i]? = some (ks[i]?.getD 0, lastS ks i) := by
      have := seg_get ks i (by rw [Hkl.out]; exact hi)
      simpa [List.getD_eq_getElem?_getD] using this
    have hout := outS_bound (L := l) (p := fun t => 0 ≤ t ∧ t ≤ 1114111) Hsegb.out i
    have holen := outS_len l (segL ks) i
    generalize ks[i]?.getD 0 = a at *
    generalize lastS ks i = z at *
    have hst2 := hst
    obtain ⟨v, hbW, hYp, hYb, hF, hrgs, hrow, hnil⟩ := hst
    have c1 : W.cell? ⟨w4.heap.size + 1, 0, none⟩ = some (.pointer (some ⟨w4.heap.size, 0, none⟩)) := cell_blk hYp 0
    have hfind := ranges_find w4.heap.size 0 lA ln lc l a W (cell_blk hYb 0) (by omega) (hrgs.more (by omega)) (by omega)
    have Hst := Lib.hid hst2
    have Hrow := Lib.hid hrow
    have Hnil := Lib.hid hnil
    have Hout := Lib.hid hout
    have Hseg := Lib.hid hseg
    have HYb := Lib.hid hYb
    have hsY : w4.heap.size + 1 < W.heap.size := (Array.getElem?_eq_some_iff.1 hYp).1
    rcases hf : findR l a with _ | u
    · rw [hf] at hfind
      have Hf := Lib.hid hfind
      have hnx := outS_none hseg hf
      have Hnx := Lib.hid hnx
      clear hst2 hfind hf hYp hYb hrgs hrow hnil hout hseg hnx
      gi_wp2_with fail
      refine ⟨trivial, rfl, (callsIn_round Hf.out).mono ?_⟩
      rintro e w7 ⟨rfl, hb7⟩
      simp only [Option.getD_none, Option.isSome_none]
      gi_wp2
      exact ⟨Keeps.below (fun k hk => by rcases hk with rfl | rfl <;> omega) (by have := hbw6.size; omega) hb7, by show OvSt w w6.heap.size w4.heap.size lA ln lc l (outS l (segL ks) (i + 1)) w7; rw [Hnx.out]; exact Hst.out.below hb7⟩
    · rw [hf] at hfind
      have Hf := Lib.hid hfind
      have hnx := outS_some hseg hf
      have Hnx := Lib.hid hnx
      have hfr := find_mem hf
      clear hst2 hfind hf hYp hYb hrgs hrow hnil hout hseg hnx hfr
      gi_wp2_with fail
      refine ⟨trivial, rfl, (callsIn_round Hf.out).mono ?_⟩
      rintro e w7 ⟨rfl, hb7⟩
      simp only [Option.getD_some, Option.isSome_some]
      have d1 := (cellOf hb7 hsY).trans c1
      have hadd := layer_add w6.heap.size w4.heap.size (.slice lA ln lc) v (outS l (segL ks) i) { f := a, t := z, v := u } w7 ((hb7.block _ (by omega)).trans HYb.out) (Nat.le_trans hF hb7.size) (by omega) (ownsRow_below Hrow.out hb7) Hnil.out Hout.out (by omega)
      have Hadd := Lib.hid hadd
      clear hadd
      gi_wp2_with fail
      refine ⟨trivial, rfl, (callsIn_round Hadd.out).mono ?_⟩
      rintro e w8 ⟨rfl, v', ha⟩
      gi_wp2
      have h7 := Hst.out.below hb7
      have hY7 := (hb7.block w4.heap.size (by omega)).trans HYb.out
      have hrow7 := ownsRow_below Hrow.out hb7
      have hown : ∀ k, k < w6.heap.size → some k ≠ v.ownBlock := fun k hk e => by have := (row_data hrow7 k e.symm).1; omega
      have hs7 := hb7.size
      refine ⟨(Keeps.below (fun k hk => by rcases hk with rfl | rfl <;> omega) (by have := hbw6.size; omega) hb7).trans ?_, ?_⟩
      · obtain ⟨a1, a2, a3, a4, a5, a6, a7⟩ := ha
        refine ⟨a6, fun k hk => a7 k (by have := hbw6.size; omega) (by omega) (hown k (by have := hbw6.size; omega)), fun k hk => ?_, fun k o ho hd => ?_⟩
        · rcases hk with rfl | rfl
          · exact a7 _ (by omega) (by omega) (hown _ (by omega))
          · exact a7 _ (by omega) (by omega) (hown _ (by omega))
        · refine (a7 k (Array.getElem?_eq_some_iff.1 ho).1 (fun e => ?_) (fun e => ?_)).trans ho
          · subst e; rw [hY7] at ho; cases ho; cases hd
          · obtain ⟨_, o2, h2, h3⟩ := row_data hrow7 k e.symm
            rw [ho] at h2; cases h2; rw [hd] at h3; cases h3
      · show OvSt w w6.heap.size w4.heap.size lA ln lc l (outS l (segL ks) (i + 1)) w8
        rw [Hnx.out]
        exact h7.added hY7 ha hws (by omega) (addR_ne _ _)
  case done =>
    rintro D W hD ⟨v, hbW, hYp, hYb, hF, hrgs, hrow, hnil⟩ hK
    obtain ⟨A', n', c', rfl, hn', hnc', hrg⟩ := rgs_own hrow
    have c1 : W.cell? ⟨w4.heap.size + 1, 0, none⟩ = some (.pointer (some ⟨w4.heap.size, 0, none⟩)) := cell_blk hYp 0
    have c2 : W.cell? ⟨w4.heap.size, 1, none⟩ = some (.slice A' n' c') := cell_blk hYb 1
    have hTL := (tight_rise Hr.out).2.1
    rw [Htl.out] at hTL
    have hn6 : n' ≤ 600 := by have := Hlen.out; omega
    have Hrg := Lib.hid hrg
    clear hYp hYb hrgs hrow hnil hrg hTL
    subst hn'
    go_wp2_with fail
    refine ⟨by simp, .inl ⟨_, _, rfl, run_takeDeferred hK, ?_⟩⟩
    refine ⟨.tuple #[.slice A' (outS l (segL ks) nk).length c', .int .i64 0], by simp [results, Tryz.results179, go_sem], A', _, c', rfl, hnc', ?_, ?_⟩
    · rw [Htl.out]
      exact (Hrg.out.data (fun k o _ ho hd => (World.putObj_heap_other (fun e => by subst e; rw [hK] at ho; cases ho; cases hd)).trans ho)).more (by simp)
    · exact hbW.trans ⟨rfl, rfl, rfl, by simp, fun k hk => World.putObj_heap_other (by have := hbw6.size; omega)⟩
  case stop =>
    rintro D i c W hD hi hK
    exact hK.elim

theorem span_Tight (A : Option Addr) (n c : Nat) (l : List Rg) (w : World) (hx : Rgs w w.heap.size A n l) (hA : A = none → n = 0 ∧ c = 0) (hn : n ≤ 600) (hr : riseR (-1) l = true) :
    Calls Tryz.prog 158 #[.slice A n c] w fun e w' => ∃ A' n' c', e = .returned (.tuple #[.slice A' n' c', .int .i64 0]) ∧ n' ≤ c' ∧ Rgs w' w'.heap.size A' n' (tightR l) ∧ Below w.heap.size w w' := by
  have ho := span_Over A n c l w hx hA hn hr
  have Ho := Lib.hid ho
  clear ho hx hr
  go_enter Tryz.func158, Tryz.ntmps158
  go_wp2_with fail
  refine Ho.out.mono ?_
  rintro e w1 ⟨A', n', c', rfl, h1, h2, h3⟩
  have H2 := Lib.hid h2
  clear h2
  go_wp2_with fail
  go_ret2
  exact ⟨A', n', c', rfl, h1, H2.out, h3⟩
end Go.Vir


namespace Go.Vir
open Go Go.RowKit Go.Proofs Go.Shelf
attribute [local go_sem] Oper.semAt_some

structure GlobP (w : World) : Prop where
  f : GlobF w
  ef : ∃ ep, w.cell? ⟨2, 0, none⟩ = some (.iface 333 (.pointer (some ep)))
  elt : 2 < w.heap.size
theorem GlobP.below {w W : World} (h : GlobP w) (hb : Below w.heap.size w W) : GlobP W := ⟨h.f.below hb, h.ef.imp fun _ hm => (cellOf hb h.elt).trans hm, Nat.lt_of_lt_of_le h.elt hb.size⟩

def ReadPE (EF : Value) (r : List Rg × Int × Int) (e : Ending) (w' : World) : Prop :=
  (r.2.2 = 0 ∧ ∃ A n c, e = .returned (.tuple #[.slice A n c, .nilIface]) ∧ n ≤ c ∧ Rgs w' w'.heap.size A n r.1) ∨ (r.2.2 ≠ 0 ∧ e = .returned (.tuple #[.slice none 0 0, errP EF r.2.1 r.2.2]))

structure RdBx (w : World) (R : Nat) (v e : Value) (W : World) : Prop where
  ap : Apart (fun k => k = R) w W
  bx : W.heap[w.heap.size]? = some (.cells #[.pointer (some ⟨R, 0, none⟩)] 201 (0, 0))
  ca : W.heap[w.heap.size + 1]? = some (.cells #[v] 93 (0, 0))
  cb : W.heap[w.heap.size + 2]? = some (.cells #[e] 50 (0, 0))
theorem RdBx.below {w A B : World} {R : Nat} {v e : Value} (h : RdBx w R v e A) (hb : Below A.heap.size A B) : RdBx w R v e B :=
  ⟨h.ap.trans (Apart.below hb), (hb.block _ (Array.getElem?_eq_some_iff.1 h.bx).1).trans h.bx, (hb.block _ (Array.getElem?_eq_some_iff.1 h.ca).1).trans h.ca, (hb.block _ (Array.getElem?_eq_some_iff.1 h.cb).1).trans h.cb⟩
theorem RdBx.fin0 {w W : World} {R : Nat} {v e : Value} (h : RdBx w R v e W) (v' e' : Value) : RdBx w R v' e' ((W.setCell ⟨w.heap.size + 1, 0, none⟩ v').setCell ⟨w.heap.size + 1 + 1, 0, none⟩ e') := by
  have h1 := setCell_blk h.ca 0 v'
  have h2 : (W.setCell ⟨w.heap.size + 1, 0, none⟩ v').heap[w.heap.size + 2]? = some (.cells #[e] 50 (0, 0)) := (Below.heap_setCell _ _ _ _ (by simp)).trans h.cb
  have h3 := setCell_blk h2 0 e'
  have hne : ∀ k, k ≠ w.heap.size + 1 → k ≠ w.heap.size + 2 → ((W.setCell ⟨w.heap.size + 1, 0, none⟩ v').setCell ⟨w.heap.size + 1 + 1, 0, none⟩ e').heap[k]? = W.heap[k]? := fun k h4 h5 =>
    (Below.heap_setCell _ _ _ _ h5).trans (Below.heap_setCell _ _ _ _ h4)
  refine ⟨⟨h.ap.os, h.ap.tape, h.ap.output, by have := h.ap.size; simp [World.setCell]; exact this, fun k hk ho => (hne k (by omega) (by omega)).trans (h.ap.block k hk ho)⟩, (hne _ (by omega) (by omega)).trans h.bx, ?_, ?_⟩
  · exact (Below.heap_setCell _ _ _ _ (by simp)).trans (by simpa using h1)
  · have h4 := h3
    simp only [List.setIfInBounds_toArray, List.set_cons_zero] at h4
    exact h4
theorem RdBx.fin {w W : World} {R : Nat} {v e : Value} (h : RdBx w R v e W) (v' e' : Value) : RdBx w R v' e' ((W.setCell ⟨w.heap.size + 1, 0, none⟩ v').setCell ⟨w.heap.size + 1 + 1, 0, none⟩ e').drew := (h.fin0 v' e').below (Below.refl _ _).drew
theorem RdBx.put {w A : World} {R l : Nat} {v e : Value} {o o' : Obj} (h : RdBx w R v e A) (hl : w.heap.size ≤ l) (ho : A.heap[l]? = some o) (hd : isData o = false) : RdBx w R v e (A.putObj l o') := by
  have hne : ∀ (k : Nat) (cs : Array Value) (t : TypeId), A.heap[k]? = some (.cells cs t (0, 0)) → (A.putObj l o').heap[k]? = some (.cells cs t (0, 0)) := fun k cs t hk =>
    (World.putObj_heap_other (fun e => by subst e; rw [hk] at ho; cases ho; cases hd)).trans hk
  exact ⟨⟨h.ap.os, h.ap.tape, h.ap.output, by have := h.ap.size; simp; omega, fun k hk hO => (World.putObj_heap_other (by omega)).trans (h.ap.block k hk hO)⟩, hne _ _ _ h.bx, hne _ _ _ h.ca, hne _ _ _ h.cb⟩
theorem Rgs.data2 {w W : World} {R B n : Nat} {A : Option Addr} {l : List Rg} {v e v' e' : Value} (h : Rgs W B A n l) (hb : RdBx w R v e W) (hv : ∀ x, v ≠ .int .i64 x) (he : ∀ x, e ≠ .int .i64 x) :
    Rgs ((W.setCell ⟨w.heap.size + 1, 0, none⟩ v').setCell ⟨w.heap.size + 1 + 1, 0, none⟩ e') B A n l := by
  refine ⟨h.len, fun hn => ?_⟩
  obtain ⟨b, o, e1, hlt, hc⟩ := h.at_ hn
  have key : ∀ (k : Nat) (x : Int), W.cell? ⟨b, k, none⟩ = some (.int .i64 x) → ((W.setCell ⟨w.heap.size + 1, 0, none⟩ v').setCell ⟨w.heap.size + 1 + 1, 0, none⟩ e').cell? ⟨b, k, none⟩ = some (.int .i64 x) := fun k x hx => by
    have h1 : b ≠ w.heap.size + 1 := by
      rintro rfl
      rw [cell_blk hb.ca] at hx
      match k, hx with
      | 0, hx => exact hv x (by simpa using hx)
      | k + 1, hx => simp at hx
    have h2 : b ≠ w.heap.size + 1 + 1 := by
      rintro rfl
      rw [show w.heap.size + 1 + 1 = w.heap.size + 2 from rfl, cell_blk hb.cb] at hx
      match k, hx with
      | 0, hx => exact he x (by simpa using hx)
      | k + 1, hx => simp at hx
    exact (World.cell?_of_block (a := ⟨b, k, none⟩) (Below.heap_setCell _ _ _ _ h2)).trans ((World.cell?_of_block (a := ⟨b, k, none⟩) (Below.heap_setCell _ _ _ _ h1)).trans hx)
  exact ⟨b, o, e1, hlt, fun j hj => ⟨key _ _ (hc j hj).1, key _ _ (hc j hj).2.1, key _ _ (hc j hj).2.2⟩⟩
theorem lineN_fs {s : List UInt8} {a b : Nat} {fs : List (List UInt8)} (h : lineN s = .rcd a b fs) : fs.length ≤ 20 := by
  unfold lineN at h
  split at h
  · cases h
  · split at h
    · cases h
    · split at h
      · cases h
      · split at h
        · cases h
        · rename_i h1 h2
          cases h
          rw [List.length_tail]
          omega
theorem recsN_fs : ∀ (ts : List (List UInt8)) (k : Nat) (acc : List RecV), (∀ x ∈ acc, x.fs.length ≤ 20) → ∀ x ∈ (recsN ts k acc).1, x.fs.length ≤ 20
  | [], _, acc, h => h
  | t :: ts, k, acc, h => by
    rw [recsN_cons]
    split
    · exact recsN_fs ts _ acc h
    · simp
    · rename_i a b fs hr
      split
      · simp
      · refine recsN_fs ts _ _ (fun x hx => ?_)
        rcases List.mem_append.1 hx with hx | hx
        · exact h x hx
        · simp only [List.mem_singleton] at hx
          subst hx
          exact lineN_fs hr
theorem fileN_fs (s : List UInt8) : ∀ x ∈ (fileN s).1, x.fs.length ≤ 20 := recsN_fs _ _ _ (by simp)
theorem evP_len (ss : List (List UInt8)) (k : Nat) (loose : Bool) : ∀ l : List RecV, (evP ss k loose l).length ≤ l.length
  | [] => by simp [evP]
  | x :: l => by
    have := evP_len ss k loose l
    rw [evP_cons]
    split
    · split <;> simp <;> omega
    · simp; omega
theorem outE_len (E : List (RecV × Option Int)) (i : Nat) : (outE E i).length ≤ E.length := by
  unfold outE
  exact Nat.le_trans (List.length_filterMap_le _ _) (by rw [List.length_take]; omega)
theorem arr2 {a b c d : Value} (h : #[a, b] = #[c, d]) : a = c ∧ b = d := by
  have h2 : [a, b] = [c, d] := congrArg Array.toList h
  injection h2 with h3 h4
  injection h4 with h5 _
  exact ⟨h3, h5⟩
theorem ev_step {E : List (RecV × Option Int)} {EF : Value} {i : Nat} {x : Rg} {e : Value} (heq : readsE E [] = readsE (E.drop i) (outE E i)) (h : EvP E EF i #[encR x, e]) :
    (∃ ln cd, cd ≠ 0 ∧ e = errP EF ln cd ∧ readsE E [] = .inr (ln, cd)) ∨ (e = .nilIface ∧ readsE E [] = readsE (E.drop (i + 1)) (outE E (i + 1)) ∧ outE E (i + 1) = outE E i ++ [x]) := by
  obtain ⟨⟨y, u⟩, he, hx⟩ := h
  have hi := (List.getElem?_eq_some_iff.1 he).1
  have hdr : E.drop i = (y, u) :: E.drop (i + 1) := by
    rw [List.drop_eq_getElem_cons hi]
    obtain ⟨_, h⟩ := List.getElem?_eq_some_iff.1 he
    rw [h]
  rw [hdr] at heq
  rcases u with _ | u
  · simp only [evV] at hx
    refine .inl ⟨y.line, 40, by decide, (arr2 hx).2, by rw [heq, readsE_none]⟩
  · simp only [evV] at hx
    have h0 : encR x = encR (rgOf y u) := (arr2 hx).1
    have h1 : e = if (outE E i).any (lapR (rgOf y u)) then errP EF y.line 30 else .nilIface := (arr2 hx).2
    have hxy : x = rgOf y u := by
      obtain ⟨a, b, c⟩ := x
      generalize rgOf y u = z at h0
      obtain ⟨a', b', c'⟩ := z
      simpa [encR] using h0
    have ho : outE E (i + 1) = outE E i ++ [rgOf y u] := by
      unfold outE
      rw [List.take_add_one, he]
      simp [List.filterMap_append]
    rw [readsE_some] at heq
    by_cases hl : (outE E i).any (lapR (rgOf y u)) = true
    · rw [if_pos hl] at h1 heq
      exact .inl ⟨y.line, 30, by decide, h1, heq⟩
    · rw [if_neg hl] at h1 heq
      exact .inr ⟨h1, by rw [heq, ho], by rw [ho, hxy]⟩
structure PdSt (w : World) (R : Nat) (A : Option Addr) (n c r : Nat) (k : Int) (loose : Bool) (E : List (RecV × Option Int)) (F i : Nat) (W : World) (v : Value) : Prop where
  bx : RdBx w R (.slice none 0 0) .nilIface W
  hF : w.heap.size + 3 ≤ F
  rd : W.heap[R]? = some (.cells #[.slice A n c, .map (some r), .int .i64 k, .bool loose, v] 207 (0, 0))
  row : W.ownsRow F 139 3 v (outE E i).length (rgVs (outE E i))
  eq : readsE E [] = readsE (E.drop i) (outE E i)
section
variable {w W W' : World} {R n c r F i l : Nat} {A : Option Addr} {k : Int} {loose : Bool} {E : List (RecV × Option Int)} {v : Value} {o o' : Obj}
theorem PdSt.rdp (h : PdSt w R A n c r k loose E F i W v) (hE : E.length ≤ 300) : RdP E R A n c r k loose i W := by
  obtain ⟨Ao, no, co, rfl, hn, _, hr⟩ := rgs_own h.row
  exact ⟨Ao, no, co, h.rd, hr, by have := outE_len E i; omega⟩
theorem PdSt.below (h : PdSt w R A n c r k loose E F i W v) (hb : Below W.heap.size W W') : PdSt w R A n c r k loose E F i W' v :=
  ⟨h.bx.below hb, h.hF, (hb.block R (Array.getElem?_eq_some_iff.1 h.rd).1).trans h.rd, ownsRow_below h.row hb, h.eq⟩
theorem PdSt.put (h : PdSt w R A n c r k loose E F i W v) (hR : R < w.heap.size) (hl : w.heap.size ≤ l) (ho : W.heap[l]? = some o) (hd : isData o = false) : PdSt w R A n c r k loose E F i (W.putObj l o') v :=
  ⟨h.bx.put hl ho hd, h.hF, (World.putObj_heap_other (by omega)).trans h.rd, ownsRow_moves h.row (Moves.putObj (B0 := 0) (O := fun _ => False) (Nat.zero_le _) ho hd) (fun _ _ => id), h.eq⟩
end

set_option maxRecDepth 100000 in
set_option maxHeartbeats 4000000 in
theorem prop_read (R r ck n c : Nat) (A : Option Addr) (k : Int) (loose : Bool) (es : Array MapEntry) (ss : List (List UInt8)) (s : List UInt8) (ep : Addr) (w : World)
    (hR : w.heap[R]? = some (.cells (rdCs A n c r k loose none 0 0) 207 (0, 0))) (hgl : 2 < R)
    (hEF : w.cell? ⟨2, 0, none⟩ = some (.iface 333 (.pointer (some ep)))) (hG : GlobF w)
    (hz : Strs w w.heap.size A n ss) (hn : n ≤ 1000000) (hs : ∀ x ∈ ss, x.length ≤ 1000000)
    (hr : w.heap[r]? = some (.map es ck)) (ha : Asc es (kvOf ss 0)) (hl : s.length ≤ 20000) :
    Calls Tryz.prog 136 #[.pointer (some ⟨R, 0, none⟩), .string ⟨s.toArray⟩] w fun e w' => ReadPE (.iface 333 (.pointer (some ep))) (readB s ss k loose) e w' ∧ Apart (fun k => k = R) w w' := by
  have hRl : R < w.heap.size := (Array.getElem?_eq_some_iff.1 hR).1
  have hrl : r < w.heap.size := (Array.getElem?_eq_some_iff.1 hr).1
  have hNm := fun (W : World) (hW : Below w.heap.size w W) => prop_areNames A n c ss r es ck W hn ((hz.below hW).more hW.size) hs ((hW.block r hrl).trans hr) ha
  have hPa := fun (W : World) (hW : Below w.heap.size w W) => field_Parse s W (hG.below hW) hl
  have g0 : w.cell? ⟨R, 0, none⟩ = some (.slice A n c) := cell_blk hR 0
  have g1 : w.cell? ⟨R, 1, none⟩ = some (.map (some r)) := cell_blk hR 1
  have hb0 : Below w.heap.size w (((w.alloc (.cells #[.pointer (some ⟨R, 0, none⟩)] 201)).alloc (.cells #[.slice none 0 0] 93)).alloc (.cells #[.nilIface] 50)) := by go_grown
  have hbx0 : RdBx w R (.slice none 0 0) .nilIface (((w.alloc (.cells #[.pointer (some ⟨R, 0, none⟩)] 201)).alloc (.cells #[.slice none 0 0] 93)).alloc (.cells #[.nilIface] 50)) :=
    ⟨Apart.below hb0, (heap_old (by simp; omega)).trans ((heap_old (by simp)).trans (heap_new rfl)), (heap_old (by simp)).trans (heap_new (by simp)), heap_new (by simp)⟩
  have g0 := (cellOf hb0 hRl).trans g0
  have g1 := (cellOf hb0 hRl).trans g1
  have b0 := cell_blk hbx0.bx 0
  have HNm := Lib.hid hNm
  have HPa := Lib.hid hPa
  have HR := Lib.hid hR
  have Hr := Lib.hid hr
  have Ha := Lib.hid ha
  have Hz := Lib.hid hz
  have Hs := Lib.hid hs
  have HEF := Lib.hid hEF
  have Hb0 := Lib.hid hb0
  have Hbx0 := Lib.hid hbx0
  clear hNm hPa hR hr ha hz hs hG hEF hb0 hbx0
  refine (callsIn_wide (n := 0)).1 ?_
  refine callsIn_of_wp_marks Tryz.func136 rfl trivial ?_ rfl
  simp only [Tryz.ntmps136, List.size_toArray, List.length_cons, List.length_nil, Nat.reduceAdd, Nat.reduceSub, Array.replicate_succ, Array.replicate_zero, List.push_toArray, List.append_toArray, List.nil_append, List.cons_append]
  refine wpIn_wide.2 ?_
  go_wp2_with fail
  refine wp_scope_once ?_
  generalize hQl : landed _ _ _ = Ql
  generalize (((w.alloc (.cells #[.pointer (some ⟨R, 0, none⟩)] 201)).alloc (.cells #[.slice none 0 0] 93)).alloc (.cells #[.nilIface] 50)) = w0 at *
  go_wp2_with fail
  refine (HNm.out _ Hb0.out).mono ?_
  rintro e w1 ⟨rfl, hb1⟩
  have hbw1 := Hb0.out.trans (hb1.mono Hb0.out.size)
  have hbx1 := Hbx0.out.below hb1
  clear g0 g1 b0
  have d2 : w1.cell? ⟨R, 2, none⟩ = some (.int .i64 k) := (cellOf hbw1 hRl).trans (cell_blk HR.out 2)
  have b1 : w1.cell? ⟨w.heap.size, 0, none⟩ = some (.pointer (some ⟨R, 0, none⟩)) := cell_blk hbx1.bx 0
  have Hbx1 := Lib.hid hbx1
  have Hbw1 := Lib.hid hbw1
  clear hbx1 hbw1 hb1
  by_cases hc : namesB ss = true ∧ 0 ≤ k ∧ k < 20
  rotate_left
  · have hrd : readB s ss k loose = ([], 0, 2) := by unfold readB; rw [if_neg hc]
    have Hrd := Lib.hid hrd
    clear hrd
    rcases hnm : namesB ss with _ | _
    · clear hc hnm
      go_wp2_with fail
      have s1 : w1.cell? ⟨w.heap.size + 1, 0, none⟩ = some (.slice none 0 0) := cell_blk Hbx1.out.ca 0
      have s2 : w1.frozen? ⟨w.heap.size + 1, 0, none⟩ = false := frozen_blk Hbx1.out.ca 0
      have s3 : w1.cell? ⟨w.heap.size + 2, 0, none⟩ = some .nilIface := cell_blk Hbx1.out.cb 0
      have s4 : w1.frozen? ⟨w.heap.size + 2, 0, none⟩ = false := frozen_blk Hbx1.out.cb 0
      have s5 : w1.cell? ⟨2, 0, none⟩ = some (.iface 333 (.pointer (some ep))) := (cellOf Hbw1.out (by omega)).trans HEF.out
      have s6 : ¬ 2 = w.heap.size + 1 := by omega
      go_step3
      go_simp
      subst hQl
      refine landed_goto (by rfl) ?_
      go_upto_region 16 with fail
      go_region
      go_wp2_with fail
      rw [Exit.noGoto_ret]
      have hfin := Hbx1.out.fin (.slice none 0 0) (errP (.iface 333 (.pointer (some ep))) 0 2)
      have q0 : World.cell? _ ⟨w.heap.size + 1, 0, none⟩ = some (.slice none 0 0) := cell_blk hfin.ca 0
      have q1 : World.cell? _ ⟨w.heap.size + 2, 0, none⟩ = some (errP (.iface 333 (.pointer (some ep))) 0 2) := cell_blk hfin.cb 0
      refine ⟨.tuple #[.slice none 0 0, errP (.iface 333 (.pointer (some ep))) 0 2], by simp only [errP] at q0 q1; simp [results, Tryz.results136, go_sem, errP, q0, q1], ?_, hfin.ap⟩
      exact .inr ⟨by rw [Hrd.out]; decide, by rw [Hrd.out]⟩
    · rw [hnm] at hc
      by_cases hk0 : k < 0
      · have e1 : decide (k < 0) = true := decide_eq_true hk0
        clear hc hnm
        go_wp2_with fail
        have s1 : w1.cell? ⟨w.heap.size + 1, 0, none⟩ = some (.slice none 0 0) := cell_blk Hbx1.out.ca 0
        have s2 : w1.frozen? ⟨w.heap.size + 1, 0, none⟩ = false := frozen_blk Hbx1.out.ca 0
        have s3 : w1.cell? ⟨w.heap.size + 2, 0, none⟩ = some .nilIface := cell_blk Hbx1.out.cb 0
        have s4 : w1.frozen? ⟨w.heap.size + 2, 0, none⟩ = false := frozen_blk Hbx1.out.cb 0
        have s5 : w1.cell? ⟨2, 0, none⟩ = some (.iface 333 (.pointer (some ep))) := (cellOf Hbw1.out (by omega)).trans HEF.out
        have s6 : ¬ 2 = w.heap.size + 1 := by omega
        go_step3
        go_simp
        subst hQl
        refine landed_goto (by rfl) ?_
        go_upto_region 16 with fail
        go_region
        go_wp2_with fail
        rw [Exit.noGoto_ret]
        have hfin := Hbx1.out.fin (.slice none 0 0) (errP (.iface 333 (.pointer (some ep))) 0 2)
        have q0 : World.cell? _ ⟨w.heap.size + 1, 0, none⟩ = some (.slice none 0 0) := cell_blk hfin.ca 0
        have q1 : World.cell? _ ⟨w.heap.size + 2, 0, none⟩ = some (errP (.iface 333 (.pointer (some ep))) 0 2) := cell_blk hfin.cb 0
        refine ⟨.tuple #[.slice none 0 0, errP (.iface 333 (.pointer (some ep))) 0 2], by simp only [errP] at q0 q1; simp [results, Tryz.results136, go_sem, errP, q0, q1], ?_, hfin.ap⟩
        exact .inr ⟨by rw [Hrd.out]; decide, by rw [Hrd.out]⟩
      · have e1 : decide (k < 0) = false := decide_eq_false hk0
        have e2 : decide (k ≥ 20) = true := decide_eq_true (by simp at hc; omega)
        clear hc hnm
        go_wp2_with fail
        have s1 : w1.cell? ⟨w.heap.size + 1, 0, none⟩ = some (.slice none 0 0) := cell_blk Hbx1.out.ca 0
        have s2 : w1.frozen? ⟨w.heap.size + 1, 0, none⟩ = false := frozen_blk Hbx1.out.ca 0
        have s3 : w1.cell? ⟨w.heap.size + 2, 0, none⟩ = some .nilIface := cell_blk Hbx1.out.cb 0
        have s4 : w1.frozen? ⟨w.heap.size + 2, 0, none⟩ = false := frozen_blk Hbx1.out.cb 0
        have s5 : w1.cell? ⟨2, 0, none⟩ = some (.iface 333 (.pointer (some ep))) := (cellOf Hbw1.out (by omega)).trans HEF.out
        have s6 : ¬ 2 = w.heap.size + 1 := by omega
        go_step3
        go_simp
        subst hQl
        refine landed_goto (by rfl) ?_
        go_upto_region 16 with fail
        go_region
        go_wp2_with fail
        rw [Exit.noGoto_ret]
        have hfin := Hbx1.out.fin (.slice none 0 0) (errP (.iface 333 (.pointer (some ep))) 0 2)
        have q0 : World.cell? _ ⟨w.heap.size + 1, 0, none⟩ = some (.slice none 0 0) := cell_blk hfin.ca 0
        have q1 : World.cell? _ ⟨w.heap.size + 2, 0, none⟩ = some (errP (.iface 333 (.pointer (some ep))) 0 2) := cell_blk hfin.cb 0
        refine ⟨.tuple #[.slice none 0 0, errP (.iface 333 (.pointer (some ep))) 0 2], by simp only [errP] at q0 q1; simp [results, Tryz.results136, go_sem, errP, q0, q1], ?_, hfin.ap⟩
        exact .inr ⟨by rw [Hrd.out]; decide, by rw [Hrd.out]⟩
  · have e1 : decide (k < 0) = false := decide_eq_false (by omega)
    have e2 : decide (k ≥ 20) = false := decide_eq_false (by omega)
    have hk1 := hc.2.1
    have hk2 := hc.2.2
    have Hc := Lib.hid hc
    rw [hc.1]
    clear hc
    go_wp2_with fail
    refine (HPa.out _ Hbw1.out).mono ?_
    rintro e w2 ⟨Ar, nr, cr, rfl, hnr, hrec, hb2⟩
    have hbw2 := Hbw1.out.trans (hb2.mono Hbw1.out.size)
    have hbx2 := Hbx1.out.below hb2
    have Hbx2 := Lib.hid hbx2
    have Hbw2 := Lib.hid hbw2
    have Hrec := Lib.hid hrec
    clear d2 b1 e1 e2 hbx2 hbw2 hrec hb2
    by_cases he : (fileN s).2.2 = 0
    rotate_left
    · have hrd : readB s ss k loose = ([], (fileN s).2.1, (fileN s).2.2) := by unfold readB; rw [if_pos Hc.out, if_neg he]
      have Hrd := Lib.hid hrd
      have hne : ((fileN s).2.2 != 0) = true := by simpa using he
      have He := Lib.hid he
      clear hrd he Hrec Hc
      generalize (fileN s).2.1 = ln at *
      generalize (fileN s).2.2 = cd at *
      go_wp2_with fail
      have s1 : w2.cell? ⟨w.heap.size + 1, 0, none⟩ = some (.slice none 0 0) := cell_blk Hbx2.out.ca 0
      have s2 : w2.frozen? ⟨w.heap.size + 1, 0, none⟩ = false := frozen_blk Hbx2.out.ca 0
      have s3 : w2.cell? ⟨w.heap.size + 2, 0, none⟩ = some .nilIface := cell_blk Hbx2.out.cb 0
      have s4 : w2.frozen? ⟨w.heap.size + 2, 0, none⟩ = false := frozen_blk Hbx2.out.cb 0
      have s5 : w2.cell? ⟨2, 0, none⟩ = some (.iface 333 (.pointer (some ep))) := (cellOf Hbw2.out (by omega)).trans HEF.out
      have s6 : ¬ 2 = w.heap.size + 1 := by omega
      go_step3
      go_simp
      subst hQl
      refine landed_goto (by rfl) ?_
      go_upto_region 16 with fail
      go_region
      go_wp2_with fail
      rw [Exit.noGoto_ret]
      have hfin := Hbx2.out.fin (.slice none 0 0) (errP (.iface 333 (.pointer (some ep))) ln cd)
      have q0 : World.cell? _ ⟨w.heap.size + 1, 0, none⟩ = some (.slice none 0 0) := cell_blk hfin.ca 0
      have q1 : World.cell? _ ⟨w.heap.size + 2, 0, none⟩ = some (errP (.iface 333 (.pointer (some ep))) ln cd) := cell_blk hfin.cb 0
      refine ⟨.tuple #[.slice none 0 0, errP (.iface 333 (.pointer (some ep))) ln cd], by simp only [errP] at q0 q1; simp [results, Tryz.results136, go_sem, errP, q0, q1], ?_, hfin.ap⟩
      exact .inr ⟨by rw [Hrd.out]; exact He.out, by rw [Hrd.out]⟩
    · obtain ⟨kk, rfl⟩ : ∃ kk : Nat, k = (kk : Int) := ⟨k.toNat, by omega⟩
      rw [he]
      generalize (fileN s).2.1 = ln at *
      have b2 : w2.cell? ⟨w.heap.size, 0, none⟩ = some (.pointer (some ⟨R, 0, none⟩)) := cell_blk Hbx2.out.bx 0
      have hRw := (Hbw2.out.block R hRl).trans HR.out
      have hbs := Hbw2.out.size
      have hb3 : Below w2.heap.size w2 ((w2.alloc (.cells #[.pointer (some ⟨R, 0, none⟩)] 201)).alloc (.cells #[.slice Ar nr cr] 83)) := by go_grown
      have hs3 : ((w2.alloc (.cells #[.pointer (some ⟨R, 0, none⟩)] 201)).alloc (.cells #[.slice Ar nr cr] 83)).heap.size = w2.heap.size + 2 := by simp
      have hok := fileN_ok s
      have hit := says_iter R (w2.heap.size + 1) w2.heap.size R A Ar n c r ck nr cr kk es loose ss (fileN s).1 (.iface 333 (.pointer (some ep))) none 0 0 _
        hgl (Nat.le_refl _) (by omega) (by omega) (by omega) (heap_new (by simp)) ((heap_old (by simp)).trans (heap_new rfl)) ((hb3.block R (by omega)).trans hRw)
        ((Hrec.out.below hb3).more hb3.size) hok.1 (by have := Hrec.out.len; omega) (fun x hx => by have := fileN_fs s x hx; omega) ((hb3.block r (by omega)).trans ((Hbw2.out.block r hrl).trans Hr.out)) Ha.out
        ((cellOf hb3 (by omega)).trans ((cellOf Hbw2.out (by omega)).trans HEF.out)) ⟨ep, rfl⟩
      have hbx3 := Hbx2.out.below hb3
      have hrd : readB s ss (kk : Int) loose = match readsE (evP ss kk loose (fileN s).1) [] with | .inl out => (tightR (sortR out), 0, 0) | .inr e => ([], e.1, e.2) := by
        unfold readB
        rw [if_pos Hc.out, if_pos he, ← reads_evs]
        rfl
      have hok2 : ∀ out, readsE (evP ss kk loose (fileN s).1) [] = .inl out → OutOk ss.length out := fun out h => (reads_ok (k := kk) (loose := loose) (names_len Hc.out.1).2.1 hok.1 (OutOk.nil _) (by rw [reads_evs]; exact h)).1
      have Hok2 := Lib.hid hok2
      have hEl : (evP ss kk loose (fileN s).1).length ≤ 300 := Nat.le_trans (evP_len ss kk loose _) hok.2
      have Hrd := Lib.hid hrd
      have Hit := Lib.hid hit
      have Hbx3 := Lib.hid hbx3
      have HRw3 := Lib.hid ((hb3.block R (by omega)).trans hRw)
      have Hb3 := Lib.hid hb3
      clear hit hrd hbx3 hRw hb3 hok2
      go_wp2_with (go_at_call 156; refine (says_make R Ar nr cr _).mono ?_; rintro e W1 ⟨rfl, rfl⟩)
      generalize (w2.alloc (.cells #[.pointer (some ⟨R, 0, none⟩)] 201)).alloc (.cells #[.slice Ar nr cr] 83) = w3 at *
      generalize hE : evP ss kk loose (fileN s).1 = E at *
      clear hE
      refine (wpIn_wide (n := 0)).1 ?_
      refine range_lawE (B0 := R) (O := fun k => k = R) (M := fun A B => Below A.heap.size A B) (w := w3) (W0 := w3) rfl (enters_of Tryz.func174 (by kernel_rfl) rfl) Hit.out (Below.refl _ _) (by omega)
        ?hM (fun A B h => h.size) ?hps
        (fun F i W => ∃ v, PdSt w R A n c r (kk : Int) loose E F i W v)
        (fun i c W => c = .ret ∧ ∃ ln cd, RdBx w R (.slice none 0 0) (errP (.iface 333 (.pointer (some ep))) ln cd) W ∧ cd ≠ 0 ∧ readsE E [] = .inr (ln, cd))
        (fun F i a' W => ∃ (g : Nat) (x : Rg) (e v : Value), a' = { tmps := #[.pointer (some ⟨R, 0, none⟩), .string ⟨s.toArray⟩, .pointer (some ⟨w.heap.size, 0, none⟩), undef, .pointer (some ⟨w.heap.size + 1, 0, none⟩), .pointer (some ⟨w.heap.size + 1 + 1, 0, none⟩), .slice Ar nr cr, .int .i64 ln, .int .i64 0, .pointer (some ⟨g, 0, none⟩), e, undef, undef, undef, undef, undef, .pointer (some ⟨R, 0, none⟩), .pointer (some ⟨R, 0, none⟩), .pointer (some ⟨R, 0, none⟩), .agg #[.slice A n c, .map (some r)], .bool true, .bool false, .bool false, .pointer (some ⟨R, 0, none⟩), .pointer (some ⟨R, 0, none⟩), .pointer (some ⟨R, 2, none⟩), .int .i64 (kk : Int), .bool false, .bool false, .bool false, .pointer (some ⟨R, 0, none⟩), .pointer (some ⟨R, 0, none⟩), .pointer (some ⟨R, 2, none⟩), .int .i64 (kk : Int), .bool false, .bool false, .tuple #[.slice Ar nr cr, .int .i64 ln, .int .i64 0], .string ⟨s.toArray⟩, .tuple #[.slice Ar nr cr, .int .i64 ln, .int .i64 0], .slice Ar nr cr, .int .i64 ln, .int .i64 0, .int .i64 0, .bool false, .pointer (some ⟨R, 0, none⟩), .slice Ar nr cr, .func (.func 174) #[] #[.pointer (some ⟨w2.heap.size + 1, 0, none⟩), .pointer (some ⟨w2.heap.size, 0, none⟩)], encR x, e, undef, undef, undef, undef, undef, undef, undef, undef, undef, undef, undef, undef, undef, undef, undef, undef, undef, undef, undef, undef, undef, undef, undef, undef, undef, undef, undef, undef, undef, undef, undef, undef, undef, undef, undef], defers := [] } ∧
          PdSt w R A n c r (kk : Int) loose E F i W v ∧ (∀ b, v.ownBlock = some b → b < g) ∧ F ≤ g ∧ W.heap[g]? = some (.cells #[.int .i64 x.f, .int .i64 x.t, .int .i64 x.v] 139 (0, 0)) ∧ EvP E (.iface 333 (.pointer (some ep))) i #[encR x, e])
        ?hIR ?hIM ?hIP ?hIbP ?hIxP ?h0 ?hassign ?hbody ?hdone ?hstop
      case hM => exact fun A B h k o hk _ => (h.block k (Array.getElem?_eq_some_iff.1 hk).1).trans hk
      case hps =>
        rintro i xs A W ⟨e, _, rfl⟩
        obtain ⟨x, _ | v⟩ := e <;> rfl
      case hIR => exact fun F i A ⟨v, h⟩ => h.rdp hEl
      case hIM => exact fun F i A B ⟨v, h⟩ hm => ⟨v, h.below hm⟩
      case hIP => exact fun F i A l o o' hl hF ho hd ⟨v, h⟩ => ⟨v, h.put hRl (by omega) ho hd⟩
      case hIbP =>
        rintro F i a A l o o' hl hF ho hd ⟨g, x, e, v, rfl, h1, h2, h3, h4, h5⟩
        exact ⟨g, x, e, v, rfl, h1.put hRl (by omega) ho hd, h2, h3, (World.putObj_heap_other (by omega)).trans h4, h5⟩
      case hIxP =>
        rintro i c A l o o' hl ho hd ⟨rfl, ln, cd, h1, h2⟩
        exact ⟨rfl, ln, cd, h1.put (by omega) ho hd, h2⟩
      case h0 =>
        rintro F W hF hb
        exact ⟨.slice none 0 0, Hbx3.out.below hb, by omega, (hb.block R (by omega)).trans HRw3.out, World.ownsRow_nil _ _ _ _, rfl⟩
      case hassign =>
        rintro lp F i xs A W K hi hF hFA ⟨v, hst⟩ hm ⟨e, he1, rfl⟩ hsW hK
        have hst' := hst.below hm
        have hg : ∀ b, v.ownBlock = some b → b < W.heap.size := fun b hb => by
          obtain ⟨_, o, ho, _⟩ := row_data hst'.row b hb
          exact (Array.getElem?_eq_some_iff.1 ho).1
        obtain ⟨x, err, hev, hx⟩ : ∃ x err, evV (.iface 333 (.pointer (some ep))) (outE E i) e = #[encR x, err] ∧ EvP E (.iface 333 (.pointer (some ep))) i #[encR x, err] := by
          obtain ⟨y, _ | u⟩ := e
          · exact ⟨_, _, rfl, _, he1, rfl⟩
          · exact ⟨_, _, rfl, _, he1, rfl⟩
        rw [hev]
        have HK := Lib.hid hK
        have Hst := Lib.hid hst'
        have Hg := Lib.hid hg
        have Hx := Lib.hid hx
        have hFW : F ≤ W.heap.size := by have := hm.size; omega
        clear hK hst hst' hg hx hev he1
        simp only [encR]
        gi_wp2
        exact HK.out _ _ (by go_grown) ⟨W.heap.size, x, err, v, rfl, Hst.out.below (by go_grown), Hg.out, hFW, heap_new rfl, Hx.out⟩
      case hbody =>
        rintro lp F i a' W hi hF hFW ⟨g, x, e, v, rfl, hst, hvg, hFg, hg, hev⟩ hsW
        have hst2 := hst
        have hbxc := hst.bx
        have s1 : W.cell? ⟨w.heap.size + 1, 0, none⟩ = some (.slice none 0 0) := cell_blk hbxc.ca 0
        have s2 : W.frozen? ⟨w.heap.size + 1, 0, none⟩ = false := frozen_blk hbxc.ca 0
        have s3 : W.cell? ⟨w.heap.size + 2, 0, none⟩ = some .nilIface := cell_blk hbxc.cb 0
        have s4 : W.frozen? ⟨w.heap.size + 2, 0, none⟩ = false := frozen_blk hbxc.cb 0
        have hstep := ev_step hst.eq hev
        have Hst := Lib.hid hst2
        have Hbxc := Lib.hid hbxc
        have Hvg := Lib.hid hvg
        have Hg := Lib.hid hg
        clear hst hst2 hbxc hvg hg hev
        rcases hstep with ⟨l2, cd, hcd, rfl, hfin⟩ | ⟨rfl, hq, ho⟩
        · have Hfin := Lib.hid hfin
          clear hfin
          simp only [errP]
          gi_wp2
          exact ⟨(KeepE.setCell (O := fun _ => True) (B0 := 0) (F := 0) _ (p := ⟨w.heap.size + 1, 0, none⟩) (.inl trivial) (Nat.zero_le _) _).trans (KeepE.setCell (O := fun _ => True) (B0 := 0) (F := 0) _ (p := ⟨w.heap.size + 1 + 1, 0, none⟩) (.inl trivial) (Nat.zero_le _) _),
            rfl, l2, cd, Hbxc.out.fin0 _ _, hcd, Hfin.out⟩
        · clear s1 s2 s3 s4
          have hq2 := Lib.hid hq
          have Ho := Lib.hid ho
          clear hq ho
          obtain ⟨i0, hi0, hz0, hz1, hz2⟩ := info_parts rg_info
          have hrow := Hst.out.row
          have hrd := Hst.out.rd
          have hF3 := Hst.out.hF
          obtain ⟨Ao, no, co, rfl, hno, hnoc, _⟩ := rgs_own hrow
          have hol := outE_len E i
          rw [← hno] at hrow hol
          obtain ⟨xf, xt, xv⟩ := x
          have e1 : W.cell? ⟨w.heap.size, 0, none⟩ = some (.pointer (some ⟨R, 0, none⟩)) := cell_blk Hbxc.out.bx 0
          have e2 : W.cell? ⟨R, 4, none⟩ = some (.slice Ao no co) := cell_blk hrd 4
          have e3 : W.cell? ⟨g, 0, none⟩ = some (.int .i64 xf) := cell_blk Hg.out 0
          have e4 : W.cell? ⟨g, 0 + 1, none⟩ = some (.int .i64 xt) := cell_blk Hg.out 1
          have e5 : W.cell? ⟨g, 0 + 2, none⟩ = some (.int .i64 xv) := cell_blk Hg.out 2
          have hgs : g < W.heap.size := (Array.getElem?_eq_some_iff.1 Hg.out).1
          have hws : w.heap.size < W.heap.size := (Array.getElem?_eq_some_iff.1 Hbxc.out.bx).1
          have hRs : R < W.heap.size := by omega
          have Hrow := Lib.hid hrow
          have Hrd2 := Lib.hid hrd
          have Hno := Lib.hid hno
          clear hrow hrd hno
          gi_wp2
          refine wpIn_held_tail2 6 (fun V => V.cell? ⟨w.heap.size, 0, none⟩ = some (.pointer (some ⟨R, 0, none⟩)) ∧ V.cell? ⟨R, 4, none⟩ = some (.slice Ao no co) ∧ V.cell? ⟨g, 0, none⟩ = some (.int .i64 xf) ∧ V.cell? ⟨g, 0 + 1, none⟩ = some (.int .i64 xt) ∧ V.cell? ⟨g, 0 + 2, none⟩ = some (.int .i64 xv))
            (by kernel_rfl) (by kernel_rfl) (by kernel_rfl) rfl rfl (by decide) (by kernel_rfl) (by kernel_rfl) (by kernel_rfl) ⟨e1, e2, e3, e4, e5⟩ ?_
          simp only [List.take_succ_cons, List.take_zero]
          refine ⟨.pointer (some ⟨R, 0, none⟩), .inl ⟨rfl, fun V hV => by obtain ⟨c0, c1, c2, c3, c4⟩ := hV; go_simp⟩, ?_⟩
          refine ⟨.pointer (some ⟨R, 0, none⟩), .inl ⟨rfl, fun V hV => by obtain ⟨c0, c1, c2, c3, c4⟩ := hV; go_simp⟩, ?_⟩
          refine ⟨.pointer (some ⟨R, 0, none⟩), .inl ⟨rfl, fun V hV => by obtain ⟨c0, c1, c2, c3, c4⟩ := hV; go_simp⟩, ?_⟩
          refine ⟨.pointer (some ⟨R, 4, none⟩), .inl ⟨rfl, fun V hV => by obtain ⟨c0, c1, c2, c3, c4⟩ := hV; go_simp⟩, ?_⟩
          refine ⟨.slice Ao no co, .inl ⟨rfl, fun V hV => by obtain ⟨c0, c1, c2, c3, c4⟩ := hV; go_simp⟩, ?_⟩
          refine ⟨.agg #[.int .i64 xf, .int .i64 xt, .int .i64 xv], .inl ⟨rfl, fun V hV => by obtain ⟨c0, c1, c2, c3, c4⟩ := hV; go_simp⟩, ?_⟩
          refine ⟨rfl, ?_⟩
          go_simp
          unfold Stage
          refine ⟨⟨(World.cell?_alloc_lt _ _ _ hws).trans e1, (World.cell?_alloc_lt _ _ _ hRs).trans e2, (World.cell?_alloc_lt _ _ _ hgs).trans e3, (World.cell?_alloc_lt _ _ _ hgs).trans e4, (World.cell?_alloc_lt _ _ _ hgs).trans e5⟩, rfl, ?_⟩
          have hrowA : (W.alloc (.cells #[.int .i64 xf, .int .i64 xt, .int .i64 xv] 139)).drew.ownsRow F 139 3 (.slice Ao no co) no (rgVs (outE E i)) := (Hrow.out.alloc _)
          have hcA : ∀ (j : Nat) (q : Value), [Value.int .i64 xf, .int .i64 xt, .int .i64 xv][j]? = some q → (W.alloc (.cells #[.int .i64 xf, .int .i64 xt, .int .i64 xv] 139)).drew.cell? ((⟨W.heap.size, 0, none⟩ : Addr).add j) = some q := cell_three_new W _ _ _ _
          refine wpIn_append_at _ _ _ 93 rfl F 139 i0 (.agg #[.int .i64 0, .int .i64 0, .int .i64 0]) 3 24 Tryz.underlying93 hi0 hz0 hz1 hz2 rfl (by decide) _ _ _ rfl hrowA ⟨W.heap.size, 0, none⟩ 1 1 [.int .i64 xf, .int .i64 xt, .int .i64 xv] rfl rfl hcA (by intro u hu; simp at hu; rcases hu with rfl | rfl | rfl <;> rfl) (by simp only [maxLen]; omega) (by omega) (by show F ≤ (W.alloc _).heap.size; simp; omega) ?_
          intro v' w1' hown' hgrow hat
          obtain ⟨g', cap', rfl⟩ := ownsRow_succ hown'
          have hlowg : ∀ b, (Value.slice Ao no co).ownBlock = some b → b < g ∧ F ≤ b := fun b hb => ⟨Hvg.out b hb, (row_data Hrow.out b hb).1⟩
          have hkeep : ∀ k, k < W.heap.size → some k ≠ (Value.slice Ao no co).ownBlock → w1'.heap[k]? = W.heap[k]? := fun k hk hne =>
            (hgrow.block k (by show k < (W.alloc _).heap.size; simp; omega) hne).trans (Below.heap_alloc W _ k (by omega))
          have hnl : ∀ k, k < F → some k ≠ (Value.slice Ao no co).ownBlock := fun k hk e => by have := (hlowg k e.symm).2; omega
          have hng : some g ≠ (Value.slice Ao no co).ownBlock := fun e => by have := (hlowg g e.symm).1; omega
          have hrd8 := (hkeep R hRs (hnl R (by omega))).trans Hrd2.out
          have hbx8 := (hkeep w.heap.size hws (hnl _ (by omega))).trans Hbxc.out.bx
          have hg8 := (hkeep g hgs hng).trans Hg.out
          have c2 : w1'.cell? ⟨R, 4, none⟩ = some (.slice Ao no co) := cell_blk hrd8 4
          have f2 : w1'.frozen? ⟨R, 4, none⟩ = false := frozen_blk hrd8 4
          refine ⟨⟨cell_blk hbx8 0, c2, cell_blk hg8 0, cell_blk hg8 1, cell_blk hg8 2⟩, ?_⟩
          have HKeep := Lib.hid hkeep
          have Hrd8 := Lib.hid hrd8
          have Hgrow := Lib.hid hgrow
          have Hown := Lib.hid hown'
          have HrowA := Lib.hid hrowA
          have Hnl := Lib.hid hnl
          clear hkeep hrd8 hbx8 hg8 hgrow hown' hat hrowA hlowg hcA hnl hng e1 e2 e3 e4 e5
          gi_wp2
          have hsz8 : W.heap.size < w1'.heap.size := by
            have := Hgrow.out.size
            simp at this
            omega
          have hwF : ∀ k, k ≠ R → (w1'.setCell ⟨R, 4, none⟩ (.slice (some ⟨g', 0, none⟩) (no + 1) cap')).heap[k]? = w1'.heap[k]? := fun k hk => Below.heap_setCell _ _ _ _ hk
          have hsF : (w1'.setCell ⟨R, 4, none⟩ (.slice (some ⟨g', 0, none⟩) (no + 1) cap')).heap.size = w1'.heap.size := by simp [World.setCell]
          have hlow8 : ∀ k, k < F → k ≠ R → (w1'.setCell ⟨R, 4, none⟩ (.slice (some ⟨g', 0, none⟩) (no + 1) cap')).heap[k]? = W.heap[k]? := fun k hk hne => (hwF k hne).trans (HKeep.out k (by omega) (Hnl.out k hk))
          refine ⟨?_, .slice (some ⟨g', 0, none⟩) (no + 1) cap', ⟨⟨(Hgrow.out.os).trans Hbxc.out.ap.os, (Hgrow.out.tape).trans Hbxc.out.ap.tape, (Hgrow.out.output).trans Hbxc.out.ap.output, ?_, ?_⟩, ?_, ?_, ?_⟩, hF3, ?_, ?_, hq2.out⟩
          · exact (KeepE.below (by omega) (((Below.refl _ W).alloc (Nat.le_refl _) _).drew)).trans ((KeepE.grown (by show R ≤ (W.alloc _).heap.size; simp; omega) Hgrow.out (fun k hk => by
              obtain ⟨h1, h2⟩ := row_data HrowA.out k hk
              exact ⟨by omega, .inr h1, h2⟩)).trans (KeepE.setCell (O := fun k => k = R) (B0 := R) (F := F) _ (p := ⟨R, 4, none⟩) (.inl rfl) (Nat.le_refl _) _))
          · rw [hsF]; omega
          · exact fun k hk hO => (hlow8 k (by omega) hO).trans (Hbxc.out.ap.block k hk hO)
          · exact (hlow8 _ (by omega) (by omega)).trans Hbxc.out.bx
          · exact (hlow8 _ (by omega) (by omega)).trans Hbxc.out.ca
          · exact (hlow8 _ (by omega) (by omega)).trans Hbxc.out.cb
          · simpa using setCell_blk Hrd8.out 4 (.slice (some ⟨g', 0, none⟩) (no + 1) cap')
          · rw [Ho.out, List.length_append, rgVs_app, ← Hno.out]
            exact Hown.out.kept (grownBy_setCell2 w1' R 4 _) (.inr (blk_not_row Hrd8.out (by decide) Hown.out).symm)
      case hdone =>
        rintro D F W hD ⟨v, hst⟩ hK
        have hq := hst.eq
        rw [List.drop_length] at hq
        have hq2 : readsE E [] = .inl (outE E E.length) := by rw [hq, readsE]
        have hok := Hok2.out _ hq2
        have hol := outE_len E E.length
        have hrise := sort_rise _ hok.apart hok.one
        have hsl := sort_len (outE E E.length)
        obtain ⟨Ao, no, co, rfl, hno, hnoc, hrgs⟩ := rgs_own hst.row
        have hsrt := span_Sort Ao no co _ W hrgs hnoc (by omega) hok.one hok.apart
        have e1 : W.cell? ⟨w.heap.size, 0, none⟩ = some (.pointer (some ⟨R, 0, none⟩)) := cell_blk hst.bx.bx 0
        have e2 : W.cell? ⟨R, 4, none⟩ = some (.slice Ao no co) := cell_blk hst.rd 4
        have hbx := hst.bx
        have hfin : readB s ss (kk : Int) loose = (tightR (sortR (outE E E.length)), 0, 0) := by rw [Hrd.out, hq2]
        generalize outE E E.length = out at *
        have Hsrt := Lib.hid hsrt
        have Hrise := Lib.hid hrise
        have Hbx := Lib.hid hbx
        have HK := Lib.hid hK
        have Hfin := Lib.hid hfin
        have Hsl := Lib.hid hsl
        clear hsrt hrise hbx hK hfin hq hq2 hok hst hrgs hno hsl
        go_wp2_with fail
        refine Hsrt.out.mono ?_
        rintro e W4 ⟨A4, n4, c4, rfl, hnc4, hno4, hr4, hb4⟩
        have hl4 := hr4.len
        have htg := span_Tight A4 n4 c4 _ W4 hr4 hno4 (by have := Hsl.out; omega) Hrise.out
        have Htg := Lib.hid htg
        have Hb4 := Lib.hid hb4
        clear htg hr4 hb4 hl4 hno4
        go_wp2_with fail
        refine Htg.out.mono ?_
        rintro e W5 ⟨A5, n5, c5, rfl, hnc5, hr5, hb5⟩
        have hbx5 := (Hbx.out.below Hb4.out).below hb5
        have hDl : D < W.heap.size := (Array.getElem?_eq_some_iff.1 HK.out).1
        have hK5 := (hb5.block D (by have := Hb4.out.size; omega)).trans ((Hb4.out.block D hDl).trans HK.out)
        have s1 : W5.cell? ⟨w.heap.size + 1, 0, none⟩ = some (.slice none 0 0) := cell_blk hbx5.ca 0
        have s2 : W5.frozen? ⟨w.heap.size + 1, 0, none⟩ = false := frozen_blk hbx5.ca 0
        have s3 : W5.cell? ⟨w.heap.size + 2, 0, none⟩ = some .nilIface := cell_blk hbx5.cb 0
        have s4 : W5.frozen? ⟨w.heap.size + 2, 0, none⟩ = false := frozen_blk hbx5.cb 0
        have hfx := hbx5.fin0 (.slice A5 n5 c5) .nilIface
        have hne1 : D ≠ w.heap.size + 1 := by rintro rfl; rw [hbx5.ca] at hK5; cases hK5
        have hne2 : D ≠ w.heap.size + 1 + 1 := by rintro rfl; rw [hbx5.cb] at hK5; cases hK5
        have hK6 : ((W5.setCell ⟨w.heap.size + 1, 0, none⟩ (.slice A5 n5 c5)).setCell ⟨w.heap.size + 1 + 1, 0, none⟩ .nilIface).heap[D]? = some (.deferred (some [])) := (Below.heap_setCell _ _ _ _ hne2).trans ((Below.heap_setCell _ _ _ _ hne1).trans hK5)
        have hws5 : w.heap.size ≤ D := by have := Hbw2.out.size; have := Hb3.out.size; omega
        have hr6 : Rgs ((W5.setCell ⟨w.heap.size + 1, 0, none⟩ (.slice A5 n5 c5)).setCell ⟨w.heap.size + 1 + 1, 0, none⟩ .nilIface) W5.heap.size A5 n5 (tightR (sortR out)) := hr5.data2 hbx5 (fun x h => by cases h) (fun x h => by cases h)
        have Hr6 := Lib.hid hr6
        have Hfx := Lib.hid hfx
        have HK6 := Lib.hid hK6
        clear hr5 hb5 hbx5 hK5 hr6 hfx hK6
        go_wp2_with fail
        subst hQl
        rw [landed_ret]
        refine ⟨by simp, .inl ⟨_, _, rfl, run_takeDeferred HK6.out, ?_⟩⟩
        have q0 := cell_put (o' := .deferred none) HK6.out rfl (cell_blk Hfx.out.ca 0)
        have q1 := cell_put (o' := .deferred none) HK6.out rfl (cell_blk Hfx.out.cb 0)
        refine ⟨.tuple #[.slice A5 n5 c5, .nilIface], by simp [results, Tryz.results136, go_sem, q0, q1], .inl ⟨by rw [Hfin.out], A5, n5, c5, rfl, hnc5, ?_⟩, (Hfx.out.put hws5 HK6.out rfl).ap⟩
        rw [Hfin.out]
        exact (Hr6.out.data (fun k o _ ho hd => (World.putObj_heap_other (fun e => by subst e; rw [HK6.out] at ho; cases ho; cases hd)).trans ho)).more (by simp [World.setCell])
      case hstop =>
        rintro D i c W hD hi ⟨rfl, l2, cd, hbx, hcd, hq⟩ hK
        have hfin : readB s ss (kk : Int) loose = ([], l2, cd) := by rw [Hrd.out, hq]
        have hws5 : w.heap.size ≤ D := by have := Hbw2.out.size; have := Hb3.out.size; omega
        gi_wp2
        subst hQl
        rw [landed_ret]
        refine ⟨by simp, .inl ⟨_, _, rfl, run_takeDeferred hK, ?_⟩⟩
        have q0 := cell_put (o' := .deferred none) hK rfl (cell_blk hbx.ca 0)
        have q1 := cell_put (o' := .deferred none) hK rfl (cell_blk hbx.cb 0)
        exact ⟨.tuple #[.slice none 0 0, errP (.iface 333 (.pointer (some ep))) l2 cd], by simp [results, Tryz.results136, go_sem, q0, q1], .inr ⟨by rw [hfin]; exact hcd, by rw [hfin]⟩, (hbx.put hws5 hK rfl).ap⟩
end Go.Vir

