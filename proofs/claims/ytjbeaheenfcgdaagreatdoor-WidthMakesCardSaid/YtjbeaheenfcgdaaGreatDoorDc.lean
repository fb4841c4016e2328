/- Joined texts: Scc. -/
import Derived.Test.YtjbeaheenfcgdaaGreatDoorDb
namespace Go.Vir
open Go Go.RowKit Go.Proofs
attribute [local go_sem] Oper.semAt_some
attribute [local go_sem] run_store_float run_store_complex

def NextP (rb : Nat) (E : Value) (p : Addr) (s : List UInt8) (w : World) (e : Ending) (w' : World) : Prop :=
  w.grownBy w' (some rb) ∧ match decU s with
    | some (r, n) => e = .returned (.tuple #[.int .i64 (r : Int), .int .i64 (n : Int)]) ∧ w'.heap[rb]? = some (.cells #[.string ⟨(s.drop n).toArray⟩, E] 109 (0, 0))
    | none => e = .returned (.tuple #[.int .i64 0, .int .i64 0]) ∧ w'.heap[rb]? = some (.cells #[.string ⟨s.toArray⟩, .iface 324 (.pointer (some p))] 109 (0, 0))

theorem next_none {rb : Nat} {E : Value} {p : Addr} {s : List UInt8} {w W : World} (hg : Below w.heap.size w W) (hb : W.heap[rb]? = some (.cells #[.string ⟨s.toArray⟩, E] 109 (0, 0))) (hd : decU s = none) :
    NextP rb E p s w (.returned (.tuple #[.int .i64 0, .int .i64 0])) (W.setCell ⟨rb, 1, none⟩ (.iface 324 (.pointer (some p)))) := by
  unfold NextP
  rw [hd]
  refine ⟨⟨hg.os, hg.tape, hg.output, by simp [World.setCell]; exact hg.size, fun k hk hn => (Below.heap_setCell _ _ _ _ (fun e => hn (by rw [e]))).trans (hg.block k hk)⟩, rfl, by simpa using setCell_blk hb 1 _⟩

set_option maxRecDepth 100000 in
set_option maxHeartbeats 8000000 in
theorem reader_next (rb : Nat) (E : Value) (p : Addr) (s : List UInt8) (w : World) (hb : w.heap[rb]? = some (.cells #[.string ⟨s.toArray⟩, E] 109 (0, 0))) (hs : s.length ≤ 1000000)
    (hg : w.cell? ⟨6, 0, none⟩ = some (.iface 324 (.pointer (some p)))) (hgl : 6 < w.heap.size) :
    Calls Tryz.prog 112 #[.pointer (some ⟨rb, 0, none⟩)] w (NextP rb E p s w) := by
  have hrb : rb < w.heap.size := (Array.getElem?_eq_some_iff.1 hb).1
  have Hg := Lib.hid hg
  by_cases he : s = []
  · subst he
    have e0 := cell_blk hb 0
    obtain ⟨Wz, hWz⟩ : ∃ Wz, Wz = w.alloc (.cells #[.int .u8 0, .int .i64 0, .complex .f64 0 0] 206) := ⟨_, rfl⟩
    have hb1 : Below w.heap.size w Wz := by rw [hWz]; go_grown
    have hz := (hb1.block rb hrb).trans hb
    have x1 := cell_blk hz 1
    have x2 := frozen_blk hz 1
    have hn := next_none (p := p) hb1 hz rfl
    have Hn := Lib.hid hn
    have hg1 := (cellOf hb1 hgl).trans hg
    have hx0 := cell_blk hz 0
    clear hn hg hz
    go_enter Tryz.func112, Tryz.ntmps112
    go_wp2_with fail
    refine wp_scope_once ?_
    generalize hQl : landed _ _ _ = Ql
    go_upto_region 3 with fail
    rw [← hWz]
    clear hWz
    go_wp2_with fail
    go_step3
    go_simp
    subst hQl
    refine landed_goto (by rfl) ?_
    go_wp2_with fail
    rw [Exit.noGoto_ret]
    go_ret2
    exact Hn.out
  · have e0 := cell_blk hb 0
    have h0 : 0 < s.length := by cases s with | nil => exact absurd rfl he | cons a b => simp
    have hue : s.isEmpty = false := by cases s with | nil => exact absurd rfl he | cons a b => rfl
    have hhd : s.headD 0 = s[0] := by cases s with | nil => exact absurd rfl he | cons a b => rfl
    have hc256 : s[0].toNat < 256 := s[0].toNat_lt
    have hbz : Below w.heap.size w (w.alloc (.cells #[.int .u8 0, .int .i64 0, .complex .f64 0 0] 206)) := by go_grown
    have hrw := scalar_rowOf s[0].toNat (w.alloc (.cells #[.int .u8 0, .int .i64 0, .complex .f64 0 0] 206)) hc256
    have Hrw := Lib.hid hrw
    have Hbz := Lib.hid hbz
    have Hb := Lib.hid hb
    have Hhd := Lib.hid hhd
    clear hrw hbz hhd
    obtain ⟨mk, n, x, y, hr⟩ : ∃ (mk : Int) (n : Nat) (x y : Nat), rowC s[0].toNat = #[.int .u8 mk, .int .i64 (n : Int), .complex .f64 x y] := by
      unfold rowC
      split
      · exact ⟨_, 0, _, _, rfl⟩
      · exact ⟨_, _, _, _, rfl⟩
    have hrow := fun V => row_isRow s[0].toNat V
    have hsec := fun (n lo hi b : Nat) (V : World) => row_isSecond s[0].toNat n lo hi b V
    rw [hr] at hrow hsec Hrw
    have Hr := Lib.hid hr
    clear hr hg hb
    go_enter Tryz.func112, Tryz.ntmps112
    go_wp2_with fail
    refine wp_scope_once ?_
    generalize hQl : landed _ _ _ = Ql
    go_wp2_with fail
    simp only [byte_at s 0 _ h0]
    refine Hrw.out.mono ?_
    rintro e w1 ⟨rfl, hb1⟩
    have hz1 := (hb1.block w.heap.size (by simp)).trans (heap_new rfl)
    have z0 := cell_blk hz1 0
    have z1 := cell_blk hz1 1
    have z2 := cell_blk hz1 2
    have z3 := frozen_blk hz1 0
    have z4 := frozen_blk hz1 1
    have z5 := frozen_blk hz1 2
    have hbw1 := Hbz.out.trans (hb1.mono Hbz.out.size)
    have hst := row_stored (.int .u8 mk) (.int .i64 (n : Int)) x y hz1 hbw1 (Nat.le_refl _)
    have hsz1 : w.heap.size < w1.heap.size := by have := hb1.size; simp at this; omega
    have Hst := Lib.hid hst
    clear hst hz1 hbw1 hb1 e0
    go_upto_region 5 with fail
    obtain ⟨W2, hW2⟩ : ∃ W2, W2 = ((w1.setCell ⟨w.heap.size, 0, none⟩ (.int .u8 mk)).setCell ⟨w.heap.size, 1, none⟩ (.int .i64 (n : Int))).setCell ⟨w.heap.size, 2, none⟩ (.complex .f64 x y) := ⟨_, rfl⟩
    rw [← hW2] at Hst ⊢
    obtain ⟨y0, y1, y2, hb2⟩ := Hst.out
    have hsW : W2.heap.size = w1.heap.size := by rw [hW2]; simp [World.setCell]
    have hbW := (hb2.block rb hrb).trans Hb.out
    have x0 := cell_blk hbW 0
    have Hbw2 := Lib.hid hb2
    have HbW := Lib.hid hbW
    have lt0 : rb < W2.heap.size := by omega
    have hX : w.heap.size < W2.heap.size := by omega
    generalize hXe : w.heap.size = X at *
    have ltX := hX
    have HX := Lib.hid hXe
    clear z0 z1 z2 z3 z4 z5 hW2 hb2 hbW Hst hX hXe Hrw Hbz
    rcases hru : rowU s[0].toNat with _ | ⟨nn, lo, hi⟩
    · have hdec : decU s = none := dec_none h0 (by rw [Hhd.out]; exact hru)
      rw [hru] at hrow
      have Hrow := Lib.hid hrow
      clear hrow hsec hru
      refine wp_region_noPanic ?_
      refine wp_region_held_drew (S := fun V => Below W2.heap.size W2 V) (by kernel_rfl) (Below.refl _ _).drew (fun hHeld => ?_)
      refine wpAnyH_take (i := 0) (v := .agg #[.int .u8 mk, .int .i64 (n : Int), .complex .f64 x y]) rfl (by kernel_rfl) (by kernel_rfl) (by kernel_rfl) (fun _ _ _ h => h) (.inl ⟨by rfl, fun V hV => by have c0 := (cellOf hV lt0).trans x0; have d0 := (cellOf hV ltX).trans y0; have d1 := (cellOf hV ltX).trans y1; have d2 := (cellOf hV ltX).trans y2; clear hV; go_simp⟩) hHeld ?_
      try simp only [Act.put, qB, qC, qE, qF, qG]
      refine wpAnyH_ready (rs := [1]) (by kernel_rfl) (by simp) ?_
      refine AllReadyH.cons rfl (fun K hK => ?_) AllReadyH.nil
      go_simp
      refine (Hrow.out _).mono ?_
      rintro e w4 ⟨rfl, hb4⟩
      refine hK.out _ _ (Below.trans hHeld (hb4.mono hHeld.size)) (fun hHeld => ?_)
      clear hK K
      try simp only [Act.put, qB, qC, qD, qE, qF, qG]
      refine wpAnyH_take (i := 2) (v := .bool true) rfl (by kernel_rfl) (by kernel_rfl) (by kernel_rfl) (fun _ _ _ h => h) (.inl ⟨by rfl, fun V hV => by have c0 := (cellOf hV lt0).trans x0; have d0 := (cellOf hV ltX).trans y0; have d1 := (cellOf hV ltX).trans y1; have d2 := (cellOf hV ltX).trans y2; clear hV; go_simp⟩) hHeld ?_
      try simp only [Act.put, qB, qC, qD, qE, qF, qG]
      refine wpAnyH_take (i := 3) (v := .bool true) rfl (by kernel_rfl) (by kernel_rfl) (by kernel_rfl) (fun _ _ _ h => h) (.inl ⟨by rfl, fun V hV => by have c0 := (cellOf hV lt0).trans x0; have d0 := (cellOf hV ltX).trans y0; have d1 := (cellOf hV ltX).trans y1; have d2 := (cellOf hV ltX).trans y2; clear hV; go_simp⟩) hHeld ?_
      try simp only [Act.put, qB, qC, qD, qE, qF, qG]
      refine wpAnyH_take (i := 4) (v := undef) rfl (by kernel_rfl) (by kernel_rfl) (by kernel_rfl) (fun _ _ _ h => h) (.inr ⟨by rfl, rfl⟩) hHeld ?_
      try simp only [Act.put, qB, qC, qD, qE, qF, qG]
      refine wpAnyH_take (i := 5) (v := undef) rfl (by kernel_rfl) (by kernel_rfl) (by kernel_rfl) (fun _ _ _ h => h) (.inr ⟨by rfl, rfl⟩) hHeld ?_
      try simp only [Act.put, qB, qC, qD, qE, qF, qG]
      refine wpAnyH_take (i := 6) (v := undef) rfl (by kernel_rfl) (by kernel_rfl) (by kernel_rfl) (fun _ _ _ h => h) (.inr ⟨by rfl, rfl⟩) hHeld ?_
      try simp only [Act.put, qB, qC, qD, qE, qF, qG]
      refine wpAnyH_take (i := 7) (v := undef) rfl (by kernel_rfl) (by kernel_rfl) (by kernel_rfl) (fun _ _ _ h => h) (.inr ⟨by rfl, rfl⟩) hHeld ?_
      try simp only [Act.put, qB, qC, qD, qE, qF, qG]
      refine wpAnyH_take (i := 8) (v := undef) rfl (by kernel_rfl) (by kernel_rfl) (by kernel_rfl) (fun _ _ _ h => h) (.inr ⟨by rfl, rfl⟩) hHeld ?_
      try simp only [Act.put, qB, qC, qD, qE, qF, qG]
      refine wpAnyH_take (i := 9) (v := undef) rfl (by kernel_rfl) (by kernel_rfl) (by kernel_rfl) (fun _ _ _ h => h) (.inr ⟨by rfl, rfl⟩) hHeld ?_
      try simp only [Act.put, qB, qC, qD, qE, qF, qG]
      refine wpAnyH_take (i := 10) (v := undef) rfl (by kernel_rfl) (by kernel_rfl) (by kernel_rfl) (fun _ _ _ h => h) (.inr ⟨by rfl, rfl⟩) hHeld ?_
      try simp only [Act.put, qB, qC, qD, qE, qF, qG]
      refine wpAnyH_take (i := 11) (v := undef) rfl (by kernel_rfl) (by kernel_rfl) (by kernel_rfl) (fun _ _ _ h => h) (.inr ⟨by rfl, rfl⟩) hHeld ?_
      try simp only [Act.put, qB, qC, qD, qE, qF, qG]
      refine wpAnyH_take (i := 12) (v := undef) rfl (by kernel_rfl) (by kernel_rfl) (by kernel_rfl) (fun _ _ _ h => h) (.inr ⟨by rfl, rfl⟩) hHeld ?_
      try simp only [Act.put, qB, qC, qD, qE, qF, qG]
      refine wpAnyH_take (i := 13) (v := .bool true) rfl (by kernel_rfl) (by kernel_rfl) (by kernel_rfl) (fun _ _ _ h => h) (.inl ⟨by rfl, fun V hV => by have c0 := (cellOf hV lt0).trans x0; have d0 := (cellOf hV ltX).trans y0; have d1 := (cellOf hV ltX).trans y1; have d2 := (cellOf hV ltX).trans y2; clear hV; go_simp⟩) hHeld ?_
      try simp only [Act.put, qB, qC, qD, qE, qF, qG]
      refine wpAnyH_take (i := 14) (v := .bool true) rfl (by kernel_rfl) (by kernel_rfl) (by kernel_rfl) (fun _ _ _ h => h) (.inl ⟨by rfl, fun V hV => by have c0 := (cellOf hV lt0).trans x0; have d0 := (cellOf hV ltX).trans y0; have d1 := (cellOf hV ltX).trans y1; have d2 := (cellOf hV ltX).trans y2; clear hV; go_simp⟩) hHeld ?_
      try simp only [Act.put, qB, qC, qD, qE, qF, qG]
      refine wpAnyH_take (i := 15) (v := undef) rfl (by kernel_rfl) (by kernel_rfl) (by kernel_rfl) (fun _ _ _ h => h) (.inr ⟨by rfl, rfl⟩) hHeld ?_
      try simp only [Act.put, qB, qC, qD, qE, qF, qG]
      refine wpAnyH_take (i := 16) (v := undef) rfl (by kernel_rfl) (by kernel_rfl) (by kernel_rfl) (fun _ _ _ h => h) (.inr ⟨by rfl, rfl⟩) hHeld ?_
      try simp only [Act.put, qB, qC, qD, qE, qF, qG]
      refine wpAnyH_take (i := 17) (v := undef) rfl (by kernel_rfl) (by kernel_rfl) (by kernel_rfl) (fun _ _ _ h => h) (.inr ⟨by rfl, rfl⟩) hHeld ?_
      try simp only [Act.put, qB, qC, qD, qE, qF, qG]
      refine wpAnyH_take (i := 18) (v := undef) rfl (by kernel_rfl) (by kernel_rfl) (by kernel_rfl) (fun _ _ _ h => h) (.inr ⟨by rfl, rfl⟩) hHeld ?_
      try simp only [Act.put, qB, qC, qD, qE, qF, qG]
      refine wpAnyH_take (i := 19) (v := undef) rfl (by kernel_rfl) (by kernel_rfl) (by kernel_rfl) (fun _ _ _ h => h) (.inr ⟨by rfl, rfl⟩) hHeld ?_
      try simp only [Act.put, qB, qC, qD, qE, qF, qG]
      refine wpAnyH_take (i := 20) (v := undef) rfl (by kernel_rfl) (by kernel_rfl) (by kernel_rfl) (fun _ _ _ h => h) (.inr ⟨by rfl, rfl⟩) hHeld ?_
      try simp only [Act.put, qB, qC, qD, qE, qF, qG]
      refine wpAnyH_take (i := 21) (v := undef) rfl (by kernel_rfl) (by kernel_rfl) (by kernel_rfl) (fun _ _ _ h => h) (.inr ⟨by rfl, rfl⟩) hHeld ?_
      try simp only [Act.put, qB, qC, qD, qE, qF, qG]
      refine wpAnyH_take (i := 22) (v := undef) rfl (by kernel_rfl) (by kernel_rfl) (by kernel_rfl) (fun _ _ _ h => h) (.inr ⟨by rfl, rfl⟩) hHeld ?_
      try simp only [Act.put, qB, qC, qD, qE, qF, qG]
      refine wpAnyH_take (i := 23) (v := undef) rfl (by kernel_rfl) (by kernel_rfl) (by kernel_rfl) (fun _ _ _ h => h) (.inr ⟨by rfl, rfl⟩) hHeld ?_
      try simp only [Act.put, qB, qC, qD, qE, qF, qG]
      refine wpAnyH_take (i := 24) (v := undef) rfl (by kernel_rfl) (by kernel_rfl) (by kernel_rfl) (fun _ _ _ h => h) (.inr ⟨by rfl, rfl⟩) hHeld ?_
      try simp only [Act.put, qB, qC, qD, qE, qF, qG]
      refine wpAnyH_take (i := 25) (v := undef) rfl (by kernel_rfl) (by kernel_rfl) (by kernel_rfl) (fun _ _ _ h => h) (.inr ⟨by rfl, rfl⟩) hHeld ?_
      try simp only [Act.put, qB, qC, qD, qE, qF, qG]
      refine wpAnyH_take (i := 26) (v := undef) rfl (by kernel_rfl) (by kernel_rfl) (by kernel_rfl) (fun _ _ _ h => h) (.inr ⟨by rfl, rfl⟩) hHeld ?_
      try simp only [Act.put, qB, qC, qD, qE, qF, qG]
      refine wpAnyH_take (i := 27) (v := undef) rfl (by kernel_rfl) (by kernel_rfl) (by kernel_rfl) (fun _ _ _ h => h) (.inr ⟨by rfl, rfl⟩) hHeld ?_
      try simp only [Act.put, qB, qC, qD, qE, qF, qG]
      refine wpAnyH_take (i := 28) (v := undef) rfl (by kernel_rfl) (by kernel_rfl) (by kernel_rfl) (fun _ _ _ h => h) (.inr ⟨by rfl, rfl⟩) hHeld ?_
      try simp only [Act.put, qB, qC, qD, qE, qF, qG]
      refine wpAnyH_take (i := 29) (v := .bool true) rfl (by kernel_rfl) (by kernel_rfl) (by kernel_rfl) (fun _ _ _ h => h) (.inl ⟨by rfl, fun V hV => by have c0 := (cellOf hV lt0).trans x0; have d0 := (cellOf hV ltX).trans y0; have d1 := (cellOf hV ltX).trans y1; have d2 := (cellOf hV ltX).trans y2; clear hV; go_simp⟩) hHeld ?_
      try simp only [Act.put, qB, qC, qD, qE, qF, qG]
      refine wpAnyH_done (by kernel_rfl) ?_ _
      refine NoPanic.normal ?_
      have hbV := Hbw2.out.trans (hHeld.mono (Nat.le_of_lt ltX))
      have hz := (hHeld.block rb lt0).trans HbW.out
      have v1 := cell_blk hz 1
      have v2 := frozen_blk hz 1
      have hn := next_none (p := p) (by rw [HX.out]; exact hbV) hz hdec
      have Hn := Lib.hid hn
      have hg1 := (cellOf hbV hgl).trans Hg.out
      clear hn hz hbV hHeld x0 y0 y1 y2
      go_wp2_with fail
      go_step3
      go_simp
      subst hQl
      refine landed_goto (by rfl) ?_
      go_wp2_with fail
      rw [Exit.noGoto_ret]
      go_ret2
      exact Hn.out
    · have hrr := Hr.out
      unfold rowC at hrr
      rw [hru] at hrow hrr
      simp only at hrr
      obtain ⟨hmk, hn0, hx', hy'⟩ : (markU nn : Int) = mk ∧ (nn : Int) = (n : Int) ∧ fltN lo = x ∧ fltN hi = y := by simpa using hrr
      have hn1 : nn = n := by omega
      clear hn0
      subst hmk hn1 hx' hy'
      obtain ⟨hn3, hmkc⟩ := row_small hru
      have hru2 : rowU (s.headD 0).toNat = some (nn, lo, hi) := by rw [Hhd.out]; exact hru
      have Hru := Lib.hid hru2
      have Hrow := Lib.hid hrow
      clear hrow hrr
      by_cases hL : s.length ≤ nn
      · have hdec : decU s = none := dec_short h0 hru2 hL
        have hL2 : (s.length : Int) ≤ (nn : Int) := by omega
        clear hru hru2 hsec
        refine wp_region_noPanic ?_
        refine wp_region_held_drew (S := fun V => Below W2.heap.size W2 V) (by kernel_rfl) (Below.refl _ _).drew (fun hHeld => ?_)
        refine wpAnyH_take (i := 0) (v := .agg #[.int .u8 (markU nn : Int), .int .i64 (nn : Int), .complex .f64 (fltN lo) (fltN hi)]) rfl (by kernel_rfl) (by kernel_rfl) (by kernel_rfl) (fun _ _ _ h => h) (.inl ⟨by rfl, fun V hV => by have c0 := (cellOf hV lt0).trans x0; have d0 := (cellOf hV ltX).trans y0; have d1 := (cellOf hV ltX).trans y1; have d2 := (cellOf hV ltX).trans y2; clear hV; go_simp⟩) hHeld ?_
        try simp only [Act.put, qB, qC, qE, qF, qG]
        refine wpAnyH_ready (rs := [1]) (by kernel_rfl) (by simp) ?_
        refine AllReadyH.cons rfl (fun K hK => ?_) AllReadyH.nil
        go_simp
        refine (Hrow.out _).mono ?_
        rintro e w4 ⟨rfl, hb4⟩
        refine hK.out _ _ (Below.trans hHeld (hb4.mono hHeld.size)) (fun hHeld => ?_)
        clear hK K
        try simp only [Act.put, qB, qC, qD, qE, qF, qG]
        refine wpAnyH_take (i := 2) (v := .bool false) rfl (by kernel_rfl) (by kernel_rfl) (by kernel_rfl) (fun _ _ _ h => h) (.inl ⟨by rfl, fun V hV => by have c0 := (cellOf hV lt0).trans x0; have d0 := (cellOf hV ltX).trans y0; have d1 := (cellOf hV ltX).trans y1; have d2 := (cellOf hV ltX).trans y2; clear hV; go_simp⟩) hHeld ?_
        try simp only [Act.put, qB, qC, qD, qE, qF, qG]
        refine wpAnyH_take (i := 3) (v := .bool false) rfl (by kernel_rfl) (by kernel_rfl) (by kernel_rfl) (fun _ _ _ h => h) (.inl ⟨by rfl, fun V hV => by have c0 := (cellOf hV lt0).trans x0; have d0 := (cellOf hV ltX).trans y0; have d1 := (cellOf hV ltX).trans y1; have d2 := (cellOf hV ltX).trans y2; clear hV; go_simp⟩) hHeld ?_
        try simp only [Act.put, qB, qC, qD, qE, qF, qG]
        refine wpAnyH_take (i := 4) (v := .pointer (some ⟨rb, 0, none⟩)) rfl (by kernel_rfl) (by kernel_rfl) (by kernel_rfl) (fun _ _ _ h => h) (.inl ⟨by rfl, fun V hV => by have c0 := (cellOf hV lt0).trans x0; have d0 := (cellOf hV ltX).trans y0; have d1 := (cellOf hV ltX).trans y1; have d2 := (cellOf hV ltX).trans y2; clear hV; go_simp⟩) hHeld ?_
        try simp only [Act.put, qB, qC, qD, qE, qF, qG]
        refine wpAnyH_take (i := 5) (v := .pointer (some ⟨rb, 0, none⟩)) rfl (by kernel_rfl) (by kernel_rfl) (by kernel_rfl) (fun _ _ _ h => h) (.inl ⟨by rfl, fun V hV => by have c0 := (cellOf hV lt0).trans x0; have d0 := (cellOf hV ltX).trans y0; have d1 := (cellOf hV ltX).trans y1; have d2 := (cellOf hV ltX).trans y2; clear hV; go_simp⟩) hHeld ?_
        try simp only [Act.put, qB, qC, qD, qE, qF, qG]
        refine wpAnyH_take (i := 6) (v := .pointer (some ⟨rb, 0, none⟩)) rfl (by kernel_rfl) (by kernel_rfl) (by kernel_rfl) (fun _ _ _ h => h) (.inl ⟨by rfl, fun V hV => by have c0 := (cellOf hV lt0).trans x0; have d0 := (cellOf hV ltX).trans y0; have d1 := (cellOf hV ltX).trans y1; have d2 := (cellOf hV ltX).trans y2; clear hV; go_simp⟩) hHeld ?_
        try simp only [Act.put, qB, qC, qD, qE, qF, qG]
        refine wpAnyH_take (i := 7) (v := .pointer (some ⟨rb, 0, none⟩)) rfl (by kernel_rfl) (by kernel_rfl) (by kernel_rfl) (fun _ _ _ h => h) (.inl ⟨by rfl, fun V hV => by have c0 := (cellOf hV lt0).trans x0; have d0 := (cellOf hV ltX).trans y0; have d1 := (cellOf hV ltX).trans y1; have d2 := (cellOf hV ltX).trans y2; clear hV; go_simp⟩) hHeld ?_
        try simp only [Act.put, qB, qC, qD, qE, qF, qG]
        refine wpAnyH_take (i := 8) (v := .string ⟨s.toArray⟩) rfl (by kernel_rfl) (by kernel_rfl) (by kernel_rfl) (fun _ _ _ h => h) (.inl ⟨by rfl, fun V hV => by have c0 := (cellOf hV lt0).trans x0; have d0 := (cellOf hV ltX).trans y0; have d1 := (cellOf hV ltX).trans y1; have d2 := (cellOf hV ltX).trans y2; clear hV; go_simp⟩) hHeld ?_
        try simp only [Act.put, qB, qC, qD, qE, qF, qG]
        refine wpAnyH_take (i := 9) (v := .int .i64 (s.length : Int)) rfl (by kernel_rfl) (by kernel_rfl) (by kernel_rfl) (fun _ _ _ h => h) (.inl ⟨by rfl, fun V hV => by have c0 := (cellOf hV lt0).trans x0; have d0 := (cellOf hV ltX).trans y0; have d1 := (cellOf hV ltX).trans y1; have d2 := (cellOf hV ltX).trans y2; clear hV; go_simp⟩) hHeld ?_
        try simp only [Act.put, qB, qC, qD, qE, qF, qG]
        refine wpAnyH_take (i := 10) (v := .pointer (some ⟨X, 1, none⟩)) rfl (by kernel_rfl) (by kernel_rfl) (by kernel_rfl) (fun _ _ _ h => h) (.inl ⟨by rfl, fun V hV => by have c0 := (cellOf hV lt0).trans x0; have d0 := (cellOf hV ltX).trans y0; have d1 := (cellOf hV ltX).trans y1; have d2 := (cellOf hV ltX).trans y2; clear hV; go_simp⟩) hHeld ?_
        try simp only [Act.put, qB, qC, qD, qE, qF, qG]
        refine wpAnyH_take (i := 11) (v := .int .i64 (nn : Int)) rfl (by kernel_rfl) (by kernel_rfl) (by kernel_rfl) (fun _ _ _ h => h) (.inl ⟨by rfl, fun V hV => by have c0 := (cellOf hV lt0).trans x0; have d0 := (cellOf hV ltX).trans y0; have d1 := (cellOf hV ltX).trans y1; have d2 := (cellOf hV ltX).trans y2; clear hV; go_simp⟩) hHeld ?_
        try simp only [Act.put, qB, qC, qD, qE, qF, qG]
        refine wpAnyH_take (i := 12) (v := .bool true) rfl (by kernel_rfl) (by kernel_rfl) (by kernel_rfl) (fun _ _ _ h => h) (.inl ⟨by rfl, fun V hV => by have c0 := (cellOf hV lt0).trans x0; have d0 := (cellOf hV ltX).trans y0; have d1 := (cellOf hV ltX).trans y1; have d2 := (cellOf hV ltX).trans y2; clear hV; go_simp⟩) hHeld ?_
        try simp only [Act.put, qB, qC, qD, qE, qF, qG]
        refine wpAnyH_take (i := 13) (v := .bool true) rfl (by kernel_rfl) (by kernel_rfl) (by kernel_rfl) (fun _ _ _ h => h) (.inl ⟨by rfl, fun V hV => by have c0 := (cellOf hV lt0).trans x0; have d0 := (cellOf hV ltX).trans y0; have d1 := (cellOf hV ltX).trans y1; have d2 := (cellOf hV ltX).trans y2; clear hV; go_simp⟩) hHeld ?_
        try simp only [Act.put, qB, qC, qD, qE, qF, qG]
        refine wpAnyH_take (i := 14) (v := .bool true) rfl (by kernel_rfl) (by kernel_rfl) (by kernel_rfl) (fun _ _ _ h => h) (.inl ⟨by rfl, fun V hV => by have c0 := (cellOf hV lt0).trans x0; have d0 := (cellOf hV ltX).trans y0; have d1 := (cellOf hV ltX).trans y1; have d2 := (cellOf hV ltX).trans y2; clear hV; go_simp⟩) hHeld ?_
        try simp only [Act.put, qB, qC, qD, qE, qF, qG]
        refine wpAnyH_take (i := 15) (v := undef) rfl (by kernel_rfl) (by kernel_rfl) (by kernel_rfl) (fun _ _ _ h => h) (.inr ⟨by rfl, rfl⟩) hHeld ?_
        try simp only [Act.put, qB, qC, qD, qE, qF, qG]
        refine wpAnyH_take (i := 16) (v := undef) rfl (by kernel_rfl) (by kernel_rfl) (by kernel_rfl) (fun _ _ _ h => h) (.inr ⟨by rfl, rfl⟩) hHeld ?_
        try simp only [Act.put, qB, qC, qD, qE, qF, qG]
        refine wpAnyH_take (i := 17) (v := undef) rfl (by kernel_rfl) (by kernel_rfl) (by kernel_rfl) (fun _ _ _ h => h) (.inr ⟨by rfl, rfl⟩) hHeld ?_
        try simp only [Act.put, qB, qC, qD, qE, qF, qG]
        refine wpAnyH_take (i := 18) (v := undef) rfl (by kernel_rfl) (by kernel_rfl) (by kernel_rfl) (fun _ _ _ h => h) (.inr ⟨by rfl, rfl⟩) hHeld ?_
        try simp only [Act.put, qB, qC, qD, qE, qF, qG]
        refine wpAnyH_take (i := 19) (v := undef) rfl (by kernel_rfl) (by kernel_rfl) (by kernel_rfl) (fun _ _ _ h => h) (.inr ⟨by rfl, rfl⟩) hHeld ?_
        try simp only [Act.put, qB, qC, qD, qE, qF, qG]
        refine wpAnyH_take (i := 20) (v := undef) rfl (by kernel_rfl) (by kernel_rfl) (by kernel_rfl) (fun _ _ _ h => h) (.inr ⟨by rfl, rfl⟩) hHeld ?_
        try simp only [Act.put, qB, qC, qD, qE, qF, qG]
        refine wpAnyH_take (i := 21) (v := undef) rfl (by kernel_rfl) (by kernel_rfl) (by kernel_rfl) (fun _ _ _ h => h) (.inr ⟨by rfl, rfl⟩) hHeld ?_
        try simp only [Act.put, qB, qC, qD, qE, qF, qG]
        refine wpAnyH_take (i := 22) (v := undef) rfl (by kernel_rfl) (by kernel_rfl) (by kernel_rfl) (fun _ _ _ h => h) (.inr ⟨by rfl, rfl⟩) hHeld ?_
        try simp only [Act.put, qB, qC, qD, qE, qF, qG]
        refine wpAnyH_take (i := 23) (v := undef) rfl (by kernel_rfl) (by kernel_rfl) (by kernel_rfl) (fun _ _ _ h => h) (.inr ⟨by rfl, rfl⟩) hHeld ?_
        try simp only [Act.put, qB, qC, qD, qE, qF, qG]
        refine wpAnyH_take (i := 24) (v := undef) rfl (by kernel_rfl) (by kernel_rfl) (by kernel_rfl) (fun _ _ _ h => h) (.inr ⟨by rfl, rfl⟩) hHeld ?_
        try simp only [Act.put, qB, qC, qD, qE, qF, qG]
        refine wpAnyH_take (i := 25) (v := undef) rfl (by kernel_rfl) (by kernel_rfl) (by kernel_rfl) (fun _ _ _ h => h) (.inr ⟨by rfl, rfl⟩) hHeld ?_
        try simp only [Act.put, qB, qC, qD, qE, qF, qG]
        refine wpAnyH_take (i := 26) (v := undef) rfl (by kernel_rfl) (by kernel_rfl) (by kernel_rfl) (fun _ _ _ h => h) (.inr ⟨by rfl, rfl⟩) hHeld ?_
        try simp only [Act.put, qB, qC, qD, qE, qF, qG]
        refine wpAnyH_take (i := 27) (v := undef) rfl (by kernel_rfl) (by kernel_rfl) (by kernel_rfl) (fun _ _ _ h => h) (.inr ⟨by rfl, rfl⟩) hHeld ?_
        try simp only [Act.put, qB, qC, qD, qE, qF, qG]
        refine wpAnyH_take (i := 28) (v := undef) rfl (by kernel_rfl) (by kernel_rfl) (by kernel_rfl) (fun _ _ _ h => h) (.inr ⟨by rfl, rfl⟩) hHeld ?_
        try simp only [Act.put, qB, qC, qD, qE, qF, qG]
        refine wpAnyH_take (i := 29) (v := .bool true) rfl (by kernel_rfl) (by kernel_rfl) (by kernel_rfl) (fun _ _ _ h => h) (.inl ⟨by rfl, fun V hV => by have c0 := (cellOf hV lt0).trans x0; have d0 := (cellOf hV ltX).trans y0; have d1 := (cellOf hV ltX).trans y1; have d2 := (cellOf hV ltX).trans y2; clear hV; go_simp⟩) hHeld ?_
        try simp only [Act.put, qB, qC, qD, qE, qF, qG]
        refine wpAnyH_done (by kernel_rfl) ?_ _
        refine NoPanic.normal ?_
        have hbV := Hbw2.out.trans (hHeld.mono (Nat.le_of_lt ltX))
        have hz := (hHeld.block rb lt0).trans HbW.out
        have v1 := cell_blk hz 1
        have v2 := frozen_blk hz 1
        have hn := next_none (p := p) (by rw [HX.out]; exact hbV) hz hdec
        have Hn := Lib.hid hn
        have hg1 := (cellOf hbV hgl).trans Hg.out
        clear hn hz hbV hHeld x0 y0 y1 y2
        go_wp2_with fail
        go_step3
        go_simp
        subst hQl
        refine landed_goto (by rfl) ?_
        go_wp2_with fail
        rw [Exit.noGoto_ret]
        go_ret2
        exact Hn.out
      · have hL2 : ¬ (s.length : Int) ≤ (nn : Int) := by omega
        by_cases hbad : 0 < nn ∧ ¬ (lo ≤ (s.getD 1 0).toNat ∧ (s.getD 1 0).toNat ≤ hi)
        · have h1 : 1 < s.length := by omega
          have hg1s : s.getD 1 0 = s[1] := by simp [List.getD_eq_getElem?_getD, h1]
          rw [hg1s] at hbad
          have hdec : decU s = none := dec_bad (i := 1) h0 hru2 (by omega) (by omega) h1 (.inl ⟨rfl, by omega⟩)
          have hsc := fun V => hsec nn lo hi s[1].toNat V hru s[1].toNat_lt
          rw [show (decide (lo ≤ s[1].toNat) && decide (s[1].toNat ≤ hi)) = false by rw [Bool.eq_false_iff]; intro hh; simp only [Bool.and_eq_true, decide_eq_true_eq] at hh; exact hbad.2 hh] at hsc
          have Hsec := Lib.hid hsc
          have hpos : 0 < (nn : Int) := by omega
          clear hsec hsc hru hru2 hbad hg1s
          refine wp_region_noPanic ?_
          refine wp_region_held_drew (S := fun V => Below W2.heap.size W2 V) (by kernel_rfl) (Below.refl _ _).drew (fun hHeld => ?_)
          refine wpAnyH_take (i := 0) (v := .agg #[.int .u8 (markU nn : Int), .int .i64 (nn : Int), .complex .f64 (fltN lo) (fltN hi)]) rfl (by kernel_rfl) (by kernel_rfl) (by kernel_rfl) (fun _ _ _ h => h) (.inl ⟨by rfl, fun V hV => by have c0 := (cellOf hV lt0).trans x0; have d0 := (cellOf hV ltX).trans y0; have d1 := (cellOf hV ltX).trans y1; have d2 := (cellOf hV ltX).trans y2; clear hV; go_simp⟩) hHeld ?_
          try simp only [Act.put, qB, qC, qE, qF, qG]
          refine wpAnyH_ready (rs := [1]) (by kernel_rfl) (by simp) ?_
          refine AllReadyH.cons rfl (fun K hK => ?_) AllReadyH.nil
          go_simp
          refine (Hrow.out _).mono ?_
          rintro e w4 ⟨rfl, hb4⟩
          refine hK.out _ _ (Below.trans hHeld (hb4.mono hHeld.size)) (fun hHeld => ?_)
          clear hK K
          try simp only [Act.put, qB, qC, qD, qE, qF, qG]
          refine wpAnyH_take (i := 2) (v := .bool false) rfl (by kernel_rfl) (by kernel_rfl) (by kernel_rfl) (fun _ _ _ h => h) (.inl ⟨by rfl, fun V hV => by have c0 := (cellOf hV lt0).trans x0; have d0 := (cellOf hV ltX).trans y0; have d1 := (cellOf hV ltX).trans y1; have d2 := (cellOf hV ltX).trans y2; clear hV; go_simp⟩) hHeld ?_
          try simp only [Act.put, qB, qC, qD, qE, qF, qG]
          refine wpAnyH_take (i := 3) (v := .bool false) rfl (by kernel_rfl) (by kernel_rfl) (by kernel_rfl) (fun _ _ _ h => h) (.inl ⟨by rfl, fun V hV => by have c0 := (cellOf hV lt0).trans x0; have d0 := (cellOf hV ltX).trans y0; have d1 := (cellOf hV ltX).trans y1; have d2 := (cellOf hV ltX).trans y2; clear hV; go_simp⟩) hHeld ?_
          try simp only [Act.put, qB, qC, qD, qE, qF, qG]
          refine wpAnyH_take (i := 4) (v := .pointer (some ⟨rb, 0, none⟩)) rfl (by kernel_rfl) (by kernel_rfl) (by kernel_rfl) (fun _ _ _ h => h) (.inl ⟨by rfl, fun V hV => by have c0 := (cellOf hV lt0).trans x0; have d0 := (cellOf hV ltX).trans y0; have d1 := (cellOf hV ltX).trans y1; have d2 := (cellOf hV ltX).trans y2; clear hV; go_simp⟩) hHeld ?_
          try simp only [Act.put, qB, qC, qD, qE, qF, qG]
          refine wpAnyH_take (i := 5) (v := .pointer (some ⟨rb, 0, none⟩)) rfl (by kernel_rfl) (by kernel_rfl) (by kernel_rfl) (fun _ _ _ h => h) (.inl ⟨by rfl, fun V hV => by have c0 := (cellOf hV lt0).trans x0; have d0 := (cellOf hV ltX).trans y0; have d1 := (cellOf hV ltX).trans y1; have d2 := (cellOf hV ltX).trans y2; clear hV; go_simp⟩) hHeld ?_
          try simp only [Act.put, qB, qC, qD, qE, qF, qG]
          refine wpAnyH_take (i := 6) (v := .pointer (some ⟨rb, 0, none⟩)) rfl (by kernel_rfl) (by kernel_rfl) (by kernel_rfl) (fun _ _ _ h => h) (.inl ⟨by rfl, fun V hV => by have c0 := (cellOf hV lt0).trans x0; have d0 := (cellOf hV ltX).trans y0; have d1 := (cellOf hV ltX).trans y1; have d2 := (cellOf hV ltX).trans y2; clear hV; go_simp⟩) hHeld ?_
          try simp only [Act.put, qB, qC, qD, qE, qF, qG]
          refine wpAnyH_take (i := 7) (v := .pointer (some ⟨rb, 0, none⟩)) rfl (by kernel_rfl) (by kernel_rfl) (by kernel_rfl) (fun _ _ _ h => h) (.inl ⟨by rfl, fun V hV => by have c0 := (cellOf hV lt0).trans x0; have d0 := (cellOf hV ltX).trans y0; have d1 := (cellOf hV ltX).trans y1; have d2 := (cellOf hV ltX).trans y2; clear hV; go_simp⟩) hHeld ?_
          try simp only [Act.put, qB, qC, qD, qE, qF, qG]
          refine wpAnyH_take (i := 8) (v := .string ⟨s.toArray⟩) rfl (by kernel_rfl) (by kernel_rfl) (by kernel_rfl) (fun _ _ _ h => h) (.inl ⟨by rfl, fun V hV => by have c0 := (cellOf hV lt0).trans x0; have d0 := (cellOf hV ltX).trans y0; have d1 := (cellOf hV ltX).trans y1; have d2 := (cellOf hV ltX).trans y2; clear hV; go_simp⟩) hHeld ?_
          try simp only [Act.put, qB, qC, qD, qE, qF, qG]
          refine wpAnyH_take (i := 9) (v := .int .i64 (s.length : Int)) rfl (by kernel_rfl) (by kernel_rfl) (by kernel_rfl) (fun _ _ _ h => h) (.inl ⟨by rfl, fun V hV => by have c0 := (cellOf hV lt0).trans x0; have d0 := (cellOf hV ltX).trans y0; have d1 := (cellOf hV ltX).trans y1; have d2 := (cellOf hV ltX).trans y2; clear hV; go_simp⟩) hHeld ?_
          try simp only [Act.put, qB, qC, qD, qE, qF, qG]
          refine wpAnyH_take (i := 10) (v := .pointer (some ⟨X, 1, none⟩)) rfl (by kernel_rfl) (by kernel_rfl) (by kernel_rfl) (fun _ _ _ h => h) (.inl ⟨by rfl, fun V hV => by have c0 := (cellOf hV lt0).trans x0; have d0 := (cellOf hV ltX).trans y0; have d1 := (cellOf hV ltX).trans y1; have d2 := (cellOf hV ltX).trans y2; clear hV; go_simp⟩) hHeld ?_
          try simp only [Act.put, qB, qC, qD, qE, qF, qG]
          refine wpAnyH_take (i := 11) (v := .int .i64 (nn : Int)) rfl (by kernel_rfl) (by kernel_rfl) (by kernel_rfl) (fun _ _ _ h => h) (.inl ⟨by rfl, fun V hV => by have c0 := (cellOf hV lt0).trans x0; have d0 := (cellOf hV ltX).trans y0; have d1 := (cellOf hV ltX).trans y1; have d2 := (cellOf hV ltX).trans y2; clear hV; go_simp⟩) hHeld ?_
          try simp only [Act.put, qB, qC, qD, qE, qF, qG]
          refine wpAnyH_take (i := 12) (v := .bool false) rfl (by kernel_rfl) (by kernel_rfl) (by kernel_rfl) (fun _ _ _ h => h) (.inl ⟨by rfl, fun V hV => by have c0 := (cellOf hV lt0).trans x0; have d0 := (cellOf hV ltX).trans y0; have d1 := (cellOf hV ltX).trans y1; have d2 := (cellOf hV ltX).trans y2; clear hV; go_simp⟩) hHeld ?_
          try simp only [Act.put, qB, qC, qD, qE, qF, qG]
          refine wpAnyH_take (i := 13) (v := .bool false) rfl (by kernel_rfl) (by kernel_rfl) (by kernel_rfl) (fun _ _ _ h => h) (.inl ⟨by rfl, fun V hV => by have c0 := (cellOf hV lt0).trans x0; have d0 := (cellOf hV ltX).trans y0; have d1 := (cellOf hV ltX).trans y1; have d2 := (cellOf hV ltX).trans y2; clear hV; go_simp⟩) hHeld ?_
          try simp only [Act.put, qB, qC, qD, qE, qF, qG]
          refine wpAnyH_take (i := 14) (v := .bool false) rfl (by kernel_rfl) (by kernel_rfl) (by kernel_rfl) (fun _ _ _ h => h) (.inl ⟨by rfl, fun V hV => by have c0 := (cellOf hV lt0).trans x0; have d0 := (cellOf hV ltX).trans y0; have d1 := (cellOf hV ltX).trans y1; have d2 := (cellOf hV ltX).trans y2; clear hV; go_simp⟩) hHeld ?_
          try simp only [Act.put, qB, qC, qD, qE, qF, qG]
          refine wpAnyH_take (i := 15) (v := .pointer (some ⟨X, 1, none⟩)) rfl (by kernel_rfl) (by kernel_rfl) (by kernel_rfl) (fun _ _ _ h => h) (.inl ⟨by rfl, fun V hV => by have c0 := (cellOf hV lt0).trans x0; have d0 := (cellOf hV ltX).trans y0; have d1 := (cellOf hV ltX).trans y1; have d2 := (cellOf hV ltX).trans y2; clear hV; go_simp⟩) hHeld ?_
          try simp only [Act.put, qB, qC, qD, qE, qF, qG]
          refine wpAnyH_take (i := 16) (v := .int .i64 (nn : Int)) rfl (by kernel_rfl) (by kernel_rfl) (by kernel_rfl) (fun _ _ _ h => h) (.inl ⟨by rfl, fun V hV => by have c0 := (cellOf hV lt0).trans x0; have d0 := (cellOf hV ltX).trans y0; have d1 := (cellOf hV ltX).trans y1; have d2 := (cellOf hV ltX).trans y2; clear hV; go_simp⟩) hHeld ?_
          try simp only [Act.put, qB, qC, qD, qE, qF, qG]
          refine wpAnyH_take (i := 17) (v := .bool true) rfl (by kernel_rfl) (by kernel_rfl) (by kernel_rfl) (fun _ _ _ h => h) (.inl ⟨by rfl, fun V hV => by have c0 := (cellOf hV lt0).trans x0; have d0 := (cellOf hV ltX).trans y0; have d1 := (cellOf hV ltX).trans y1; have d2 := (cellOf hV ltX).trans y2; clear hV; go_simp; first | done | omega | (have hq := Hz.out; omega)⟩) hHeld ?_
          try simp only [Act.put, qB, qC, qD, qE, qF, qG]
          refine wpAnyH_take (i := 18) (v := .bool true) rfl (by kernel_rfl) (by kernel_rfl) (by kernel_rfl) (fun _ _ _ h => h) (.inl ⟨by rfl, fun V hV => by have c0 := (cellOf hV lt0).trans x0; have d0 := (cellOf hV ltX).trans y0; have d1 := (cellOf hV ltX).trans y1; have d2 := (cellOf hV ltX).trans y2; clear hV; go_simp⟩) hHeld ?_
          try simp only [Act.put, qB, qC, qD, qE, qF, qG]
          refine wpAnyH_take (i := 19) (v := .agg #[.int .u8 (markU nn : Int), .int .i64 (nn : Int), .complex .f64 (fltN lo) (fltN hi)]) rfl (by kernel_rfl) (by kernel_rfl) (by kernel_rfl) (fun _ _ _ h => h) (.inl ⟨by rfl, fun V hV => by have c0 := (cellOf hV lt0).trans x0; have d0 := (cellOf hV ltX).trans y0; have d1 := (cellOf hV ltX).trans y1; have d2 := (cellOf hV ltX).trans y2; clear hV; go_simp⟩) hHeld ?_
          try simp only [Act.put, qB, qC, qD, qE, qF, qG]
          refine wpAnyH_take (i := 20) (v := .pointer (some ⟨rb, 0, none⟩)) rfl (by kernel_rfl) (by kernel_rfl) (by kernel_rfl) (fun _ _ _ h => h) (.inl ⟨by rfl, fun V hV => by have c0 := (cellOf hV lt0).trans x0; have d0 := (cellOf hV ltX).trans y0; have d1 := (cellOf hV ltX).trans y1; have d2 := (cellOf hV ltX).trans y2; clear hV; go_simp⟩) hHeld ?_
          try simp only [Act.put, qB, qC, qD, qE, qF, qG]
          refine wpAnyH_take (i := 21) (v := .pointer (some ⟨rb, 0, none⟩)) rfl (by kernel_rfl) (by kernel_rfl) (by kernel_rfl) (fun _ _ _ h => h) (.inl ⟨by rfl, fun V hV => by have c0 := (cellOf hV lt0).trans x0; have d0 := (cellOf hV ltX).trans y0; have d1 := (cellOf hV ltX).trans y1; have d2 := (cellOf hV ltX).trans y2; clear hV; go_simp⟩) hHeld ?_
          try simp only [Act.put, qB, qC, qD, qE, qF, qG]
          refine wpAnyH_take (i := 22) (v := .pointer (some ⟨rb, 0, none⟩)) rfl (by kernel_rfl) (by kernel_rfl) (by kernel_rfl) (fun _ _ _ h => h) (.inl ⟨by rfl, fun V hV => by have c0 := (cellOf hV lt0).trans x0; have d0 := (cellOf hV ltX).trans y0; have d1 := (cellOf hV ltX).trans y1; have d2 := (cellOf hV ltX).trans y2; clear hV; go_simp⟩) hHeld ?_
          try simp only [Act.put, qB, qC, qD, qE, qF, qG]
          refine wpAnyH_take (i := 23) (v := .pointer (some ⟨rb, 0, none⟩)) rfl (by kernel_rfl) (by kernel_rfl) (by kernel_rfl) (fun _ _ _ h => h) (.inl ⟨by rfl, fun V hV => by have c0 := (cellOf hV lt0).trans x0; have d0 := (cellOf hV ltX).trans y0; have d1 := (cellOf hV ltX).trans y1; have d2 := (cellOf hV ltX).trans y2; clear hV; go_simp⟩) hHeld ?_
          try simp only [Act.put, qB, qC, qD, qE, qF, qG]
          refine wpAnyH_take (i := 24) (v := .string ⟨s.toArray⟩) rfl (by kernel_rfl) (by kernel_rfl) (by kernel_rfl) (fun _ _ _ h => h) (.inl ⟨by rfl, fun V hV => by have c0 := (cellOf hV lt0).trans x0; have d0 := (cellOf hV ltX).trans y0; have d1 := (cellOf hV ltX).trans y1; have d2 := (cellOf hV ltX).trans y2; clear hV; go_simp⟩) hHeld ?_
          try simp only [Act.put, qB, qC, qD, qE, qF, qG]
          refine wpAnyH_take (i := 25) (v := .int .u8 (s[1].toNat : Int)) rfl (by kernel_rfl) (by kernel_rfl) (by kernel_rfl) (fun _ _ _ h => h) (.inl ⟨by rfl, fun V hV => by have c0 := (cellOf hV lt0).trans x0; have d0 := (cellOf hV ltX).trans y0; have d1 := (cellOf hV ltX).trans y1; have d2 := (cellOf hV ltX).trans y2; clear hV; go_simp; first | done | (rw [dif_pos (by omega)]; rfl)⟩) hHeld ?_
          try simp only [Act.put, qB, qC, qD, qE, qF, qG]
          refine wpAnyH_ready (rs := [26]) (by kernel_rfl) (by simp) ?_
          refine AllReadyH.cons rfl (fun K hK => ?_) AllReadyH.nil
          go_simp
          refine (Hsec.out _).mono ?_
          rintro e w4 ⟨rfl, hb4⟩
          refine hK.out _ _ (Below.trans hHeld (hb4.mono hHeld.size)) (fun hHeld => ?_)
          clear hK K
          try simp only [Act.put, qB, qC, qD, qE, qF, qG]
          refine wpAnyH_take (i := 27) (v := .bool true) rfl (by kernel_rfl) (by kernel_rfl) (by kernel_rfl) (fun _ _ _ h => h) (.inl ⟨by rfl, fun V hV => by have c0 := (cellOf hV lt0).trans x0; have d0 := (cellOf hV ltX).trans y0; have d1 := (cellOf hV ltX).trans y1; have d2 := (cellOf hV ltX).trans y2; clear hV; go_simp⟩) hHeld ?_
          try simp only [Act.put, qB, qC, qD, qE, qF, qG]
          refine wpAnyH_take (i := 28) (v := .bool true) rfl (by kernel_rfl) (by kernel_rfl) (by kernel_rfl) (fun _ _ _ h => h) (.inl ⟨by rfl, fun V hV => by have c0 := (cellOf hV lt0).trans x0; have d0 := (cellOf hV ltX).trans y0; have d1 := (cellOf hV ltX).trans y1; have d2 := (cellOf hV ltX).trans y2; clear hV; go_simp⟩) hHeld ?_
          try simp only [Act.put, qB, qC, qD, qE, qF, qG]
          refine wpAnyH_take (i := 29) (v := .bool true) rfl (by kernel_rfl) (by kernel_rfl) (by kernel_rfl) (fun _ _ _ h => h) (.inl ⟨by rfl, fun V hV => by have c0 := (cellOf hV lt0).trans x0; have d0 := (cellOf hV ltX).trans y0; have d1 := (cellOf hV ltX).trans y1; have d2 := (cellOf hV ltX).trans y2; clear hV; go_simp⟩) hHeld ?_
          try simp only [Act.put, qB, qC, qD, qE, qF, qG]
          refine wpAnyH_done (by kernel_rfl) ?_ _
          refine NoPanic.normal ?_
          have hbV := Hbw2.out.trans (hHeld.mono (Nat.le_of_lt ltX))
          have hz := (hHeld.block rb lt0).trans HbW.out
          have v1 := cell_blk hz 1
          have v2 := frozen_blk hz 1
          have hn := next_none (p := p) (by rw [HX.out]; exact hbV) hz hdec
          have Hn := Lib.hid hn
          have hg1 := (cellOf hbV hgl).trans Hg.out
          clear hn hz hbV hHeld x0 y0 y1 y2
          go_wp2_with fail
          go_step3
          go_simp
          subst hQl
          refine landed_goto (by rfl) ?_
          go_wp2_with fail
          rw [Exit.noGoto_ret]
          go_ret2
          exact Hn.out
        · go_cut [52] from 23 to 52 (fun v wx => v = .bool false ∧ Below W2.heap.size W2 wx)
          case first =>
            by_cases hz : nn = 0
            · have Hz := Lib.hid hz
              clear hsec hru hru2 hbad hz
              refine wp_region_noPanic ?_
              refine wp_region_held_drew (S := fun V => Below W2.heap.size W2 V) (by kernel_rfl) (Below.refl _ _).drew (fun hHeld => ?_)
              refine wpAnyH_take (i := 0) (v := .agg #[.int .u8 (markU nn : Int), .int .i64 (nn : Int), .complex .f64 (fltN lo) (fltN hi)]) rfl (by kernel_rfl) (by kernel_rfl) (by kernel_rfl) (fun _ _ _ h => h) (.inl ⟨by rfl, fun V hV => by have c0 := (cellOf hV lt0).trans x0; have d0 := (cellOf hV ltX).trans y0; have d1 := (cellOf hV ltX).trans y1; have d2 := (cellOf hV ltX).trans y2; clear hV; go_simp⟩) hHeld ?_
              try simp only [Act.put, qB, qC, qE, qF, qG]
              refine wpAnyH_ready (rs := [1]) (by kernel_rfl) (by simp) ?_
              refine AllReadyH.cons rfl (fun K hK => ?_) AllReadyH.nil
              go_simp
              refine (Hrow.out _).mono ?_
              rintro e w4 ⟨rfl, hb4⟩
              refine hK.out _ _ (Below.trans hHeld (hb4.mono hHeld.size)) (fun hHeld => ?_)
              clear hK K
              try simp only [Act.put, qB, qC, qD, qE, qF, qG]
              refine wpAnyH_take (i := 2) (v := .bool false) rfl (by kernel_rfl) (by kernel_rfl) (by kernel_rfl) (fun _ _ _ h => h) (.inl ⟨by rfl, fun V hV => by have c0 := (cellOf hV lt0).trans x0; have d0 := (cellOf hV ltX).trans y0; have d1 := (cellOf hV ltX).trans y1; have d2 := (cellOf hV ltX).trans y2; clear hV; go_simp⟩) hHeld ?_
              try simp only [Act.put, qB, qC, qD, qE, qF, qG]
              refine wpAnyH_take (i := 3) (v := .bool false) rfl (by kernel_rfl) (by kernel_rfl) (by kernel_rfl) (fun _ _ _ h => h) (.inl ⟨by rfl, fun V hV => by have c0 := (cellOf hV lt0).trans x0; have d0 := (cellOf hV ltX).trans y0; have d1 := (cellOf hV ltX).trans y1; have d2 := (cellOf hV ltX).trans y2; clear hV; go_simp⟩) hHeld ?_
              try simp only [Act.put, qB, qC, qD, qE, qF, qG]
              refine wpAnyH_take (i := 4) (v := .pointer (some ⟨rb, 0, none⟩)) rfl (by kernel_rfl) (by kernel_rfl) (by kernel_rfl) (fun _ _ _ h => h) (.inl ⟨by rfl, fun V hV => by have c0 := (cellOf hV lt0).trans x0; have d0 := (cellOf hV ltX).trans y0; have d1 := (cellOf hV ltX).trans y1; have d2 := (cellOf hV ltX).trans y2; clear hV; go_simp⟩) hHeld ?_
              try simp only [Act.put, qB, qC, qD, qE, qF, qG]
              refine wpAnyH_take (i := 5) (v := .pointer (some ⟨rb, 0, none⟩)) rfl (by kernel_rfl) (by kernel_rfl) (by kernel_rfl) (fun _ _ _ h => h) (.inl ⟨by rfl, fun V hV => by have c0 := (cellOf hV lt0).trans x0; have d0 := (cellOf hV ltX).trans y0; have d1 := (cellOf hV ltX).trans y1; have d2 := (cellOf hV ltX).trans y2; clear hV; go_simp⟩) hHeld ?_
              try simp only [Act.put, qB, qC, qD, qE, qF, qG]
              refine wpAnyH_take (i := 6) (v := .pointer (some ⟨rb, 0, none⟩)) rfl (by kernel_rfl) (by kernel_rfl) (by kernel_rfl) (fun _ _ _ h => h) (.inl ⟨by rfl, fun V hV => by have c0 := (cellOf hV lt0).trans x0; have d0 := (cellOf hV ltX).trans y0; have d1 := (cellOf hV ltX).trans y1; have d2 := (cellOf hV ltX).trans y2; clear hV; go_simp⟩) hHeld ?_
              try simp only [Act.put, qB, qC, qD, qE, qF, qG]
              refine wpAnyH_take (i := 7) (v := .pointer (some ⟨rb, 0, none⟩)) rfl (by kernel_rfl) (by kernel_rfl) (by kernel_rfl) (fun _ _ _ h => h) (.inl ⟨by rfl, fun V hV => by have c0 := (cellOf hV lt0).trans x0; have d0 := (cellOf hV ltX).trans y0; have d1 := (cellOf hV ltX).trans y1; have d2 := (cellOf hV ltX).trans y2; clear hV; go_simp⟩) hHeld ?_
              try simp only [Act.put, qB, qC, qD, qE, qF, qG]
              refine wpAnyH_take (i := 8) (v := .string ⟨s.toArray⟩) rfl (by kernel_rfl) (by kernel_rfl) (by kernel_rfl) (fun _ _ _ h => h) (.inl ⟨by rfl, fun V hV => by have c0 := (cellOf hV lt0).trans x0; have d0 := (cellOf hV ltX).trans y0; have d1 := (cellOf hV ltX).trans y1; have d2 := (cellOf hV ltX).trans y2; clear hV; go_simp⟩) hHeld ?_
              try simp only [Act.put, qB, qC, qD, qE, qF, qG]
              refine wpAnyH_take (i := 9) (v := .int .i64 (s.length : Int)) rfl (by kernel_rfl) (by kernel_rfl) (by kernel_rfl) (fun _ _ _ h => h) (.inl ⟨by rfl, fun V hV => by have c0 := (cellOf hV lt0).trans x0; have d0 := (cellOf hV ltX).trans y0; have d1 := (cellOf hV ltX).trans y1; have d2 := (cellOf hV ltX).trans y2; clear hV; go_simp⟩) hHeld ?_
              try simp only [Act.put, qB, qC, qD, qE, qF, qG]
              refine wpAnyH_take (i := 10) (v := .pointer (some ⟨X, 1, none⟩)) rfl (by kernel_rfl) (by kernel_rfl) (by kernel_rfl) (fun _ _ _ h => h) (.inl ⟨by rfl, fun V hV => by have c0 := (cellOf hV lt0).trans x0; have d0 := (cellOf hV ltX).trans y0; have d1 := (cellOf hV ltX).trans y1; have d2 := (cellOf hV ltX).trans y2; clear hV; go_simp⟩) hHeld ?_
              try simp only [Act.put, qB, qC, qD, qE, qF, qG]
              refine wpAnyH_take (i := 11) (v := .int .i64 (nn : Int)) rfl (by kernel_rfl) (by kernel_rfl) (by kernel_rfl) (fun _ _ _ h => h) (.inl ⟨by rfl, fun V hV => by have c0 := (cellOf hV lt0).trans x0; have d0 := (cellOf hV ltX).trans y0; have d1 := (cellOf hV ltX).trans y1; have d2 := (cellOf hV ltX).trans y2; clear hV; go_simp⟩) hHeld ?_
              try simp only [Act.put, qB, qC, qD, qE, qF, qG]
              refine wpAnyH_take (i := 12) (v := .bool false) rfl (by kernel_rfl) (by kernel_rfl) (by kernel_rfl) (fun _ _ _ h => h) (.inl ⟨by rfl, fun V hV => by have c0 := (cellOf hV lt0).trans x0; have d0 := (cellOf hV ltX).trans y0; have d1 := (cellOf hV ltX).trans y1; have d2 := (cellOf hV ltX).trans y2; clear hV; go_simp⟩) hHeld ?_
              try simp only [Act.put, qB, qC, qD, qE, qF, qG]
              refine wpAnyH_take (i := 13) (v := .bool false) rfl (by kernel_rfl) (by kernel_rfl) (by kernel_rfl) (fun _ _ _ h => h) (.inl ⟨by rfl, fun V hV => by have c0 := (cellOf hV lt0).trans x0; have d0 := (cellOf hV ltX).trans y0; have d1 := (cellOf hV ltX).trans y1; have d2 := (cellOf hV ltX).trans y2; clear hV; go_simp⟩) hHeld ?_
              try simp only [Act.put, qB, qC, qD, qE, qF, qG]
              refine wpAnyH_take (i := 14) (v := .bool false) rfl (by kernel_rfl) (by kernel_rfl) (by kernel_rfl) (fun _ _ _ h => h) (.inl ⟨by rfl, fun V hV => by have c0 := (cellOf hV lt0).trans x0; have d0 := (cellOf hV ltX).trans y0; have d1 := (cellOf hV ltX).trans y1; have d2 := (cellOf hV ltX).trans y2; clear hV; go_simp⟩) hHeld ?_
              try simp only [Act.put, qB, qC, qD, qE, qF, qG]
              refine wpAnyH_take (i := 15) (v := .pointer (some ⟨X, 1, none⟩)) rfl (by kernel_rfl) (by kernel_rfl) (by kernel_rfl) (fun _ _ _ h => h) (.inl ⟨by rfl, fun V hV => by have c0 := (cellOf hV lt0).trans x0; have d0 := (cellOf hV ltX).trans y0; have d1 := (cellOf hV ltX).trans y1; have d2 := (cellOf hV ltX).trans y2; clear hV; go_simp⟩) hHeld ?_
              try simp only [Act.put, qB, qC, qD, qE, qF, qG]
              refine wpAnyH_take (i := 16) (v := .int .i64 (nn : Int)) rfl (by kernel_rfl) (by kernel_rfl) (by kernel_rfl) (fun _ _ _ h => h) (.inl ⟨by rfl, fun V hV => by have c0 := (cellOf hV lt0).trans x0; have d0 := (cellOf hV ltX).trans y0; have d1 := (cellOf hV ltX).trans y1; have d2 := (cellOf hV ltX).trans y2; clear hV; go_simp⟩) hHeld ?_
              try simp only [Act.put, qB, qC, qD, qE, qF, qG]
              refine wpAnyH_take (i := 17) (v := .bool false) rfl (by kernel_rfl) (by kernel_rfl) (by kernel_rfl) (fun _ _ _ h => h) (.inl ⟨by rfl, fun V hV => by have c0 := (cellOf hV lt0).trans x0; have d0 := (cellOf hV ltX).trans y0; have d1 := (cellOf hV ltX).trans y1; have d2 := (cellOf hV ltX).trans y2; clear hV; go_simp; first | done | omega | (have hq := Hz.out; omega)⟩) hHeld ?_
              try simp only [Act.put, qB, qC, qD, qE, qF, qG]
              refine wpAnyH_take (i := 18) (v := .bool false) rfl (by kernel_rfl) (by kernel_rfl) (by kernel_rfl) (fun _ _ _ h => h) (.inl ⟨by rfl, fun V hV => by have c0 := (cellOf hV lt0).trans x0; have d0 := (cellOf hV ltX).trans y0; have d1 := (cellOf hV ltX).trans y1; have d2 := (cellOf hV ltX).trans y2; clear hV; go_simp⟩) hHeld ?_
              try simp only [Act.put, qB, qC, qD, qE, qF, qG]
              refine wpAnyH_take (i := 19) (v := undef) rfl (by kernel_rfl) (by kernel_rfl) (by kernel_rfl) (fun _ _ _ h => h) (.inr ⟨by rfl, rfl⟩) hHeld ?_
              try simp only [Act.put, qB, qC, qD, qE, qF, qG]
              refine wpAnyH_take (i := 20) (v := undef) rfl (by kernel_rfl) (by kernel_rfl) (by kernel_rfl) (fun _ _ _ h => h) (.inr ⟨by rfl, rfl⟩) hHeld ?_
              try simp only [Act.put, qB, qC, qD, qE, qF, qG]
              refine wpAnyH_take (i := 21) (v := undef) rfl (by kernel_rfl) (by kernel_rfl) (by kernel_rfl) (fun _ _ _ h => h) (.inr ⟨by rfl, rfl⟩) hHeld ?_
              try simp only [Act.put, qB, qC, qD, qE, qF, qG]
              refine wpAnyH_take (i := 22) (v := undef) rfl (by kernel_rfl) (by kernel_rfl) (by kernel_rfl) (fun _ _ _ h => h) (.inr ⟨by rfl, rfl⟩) hHeld ?_
              try simp only [Act.put, qB, qC, qD, qE, qF, qG]
              refine wpAnyH_take (i := 23) (v := undef) rfl (by kernel_rfl) (by kernel_rfl) (by kernel_rfl) (fun _ _ _ h => h) (.inr ⟨by rfl, rfl⟩) hHeld ?_
              try simp only [Act.put, qB, qC, qD, qE, qF, qG]
              refine wpAnyH_take (i := 24) (v := undef) rfl (by kernel_rfl) (by kernel_rfl) (by kernel_rfl) (fun _ _ _ h => h) (.inr ⟨by rfl, rfl⟩) hHeld ?_
              try simp only [Act.put, qB, qC, qD, qE, qF, qG]
              refine wpAnyH_take (i := 25) (v := undef) rfl (by kernel_rfl) (by kernel_rfl) (by kernel_rfl) (fun _ _ _ h => h) (.inr ⟨by rfl, rfl⟩) hHeld ?_
              try simp only [Act.put, qB, qC, qD, qE, qF, qG]
              refine wpAnyH_take (i := 26) (v := undef) rfl (by kernel_rfl) (by kernel_rfl) (by kernel_rfl) (fun _ _ _ h => h) (.inr ⟨by rfl, rfl⟩) hHeld ?_
              try simp only [Act.put, qB, qC, qD, qE, qF, qG]
              refine wpAnyH_take (i := 27) (v := undef) rfl (by kernel_rfl) (by kernel_rfl) (by kernel_rfl) (fun _ _ _ h => h) (.inr ⟨by rfl, rfl⟩) hHeld ?_
              try simp only [Act.put, qB, qC, qD, qE, qF, qG]
              refine wpAnyH_take (i := 28) (v := .bool false) rfl (by kernel_rfl) (by kernel_rfl) (by kernel_rfl) (fun _ _ _ h => h) (.inl ⟨by rfl, fun V hV => by have c0 := (cellOf hV lt0).trans x0; have d0 := (cellOf hV ltX).trans y0; have d1 := (cellOf hV ltX).trans y1; have d2 := (cellOf hV ltX).trans y2; clear hV; go_simp⟩) hHeld ?_
              try simp only [Act.put, qB, qC, qD, qE, qF, qG]
              refine wpAnyH_take (i := 29) (v := .bool false) rfl (by kernel_rfl) (by kernel_rfl) (by kernel_rfl) (fun _ _ _ h => h) (.inl ⟨by rfl, fun V hV => by have c0 := (cellOf hV lt0).trans x0; have d0 := (cellOf hV ltX).trans y0; have d1 := (cellOf hV ltX).trans y1; have d2 := (cellOf hV ltX).trans y2; clear hV; go_simp⟩) hHeld ?_
              try simp only [Act.put, qB, qC, qD, qE, qF, qG]
              refine wpAnyH_done (by kernel_rfl) ?_ _
              refine NoPanic.normal ?_
              clear x0 y0 y1 y2
              go_wp2_with fail
              go_meet
              exact ⟨rfl, hHeld⟩
            · have h1 : 1 < s.length := by omega
              have hg1s : s.getD 1 0 = s[1] := by simp [List.getD_eq_getElem?_getD, h1]
              rw [hg1s] at hbad
              have hsc := fun V => hsec nn lo hi s[1].toNat V hru s[1].toNat_lt
              rw [show (decide (lo ≤ s[1].toNat) && decide (s[1].toNat ≤ hi)) = true by simp only [Bool.and_eq_true, decide_eq_true_eq]; omega] at hsc
              have Hsec := Lib.hid hsc
              have hpos : 0 < (nn : Int) := by omega
              clear hsec hsc hru hru2 hbad hg1s
              refine wp_region_noPanic ?_
              refine wp_region_held_drew (S := fun V => Below W2.heap.size W2 V) (by kernel_rfl) (Below.refl _ _).drew (fun hHeld => ?_)
              refine wpAnyH_take (i := 0) (v := .agg #[.int .u8 (markU nn : Int), .int .i64 (nn : Int), .complex .f64 (fltN lo) (fltN hi)]) rfl (by kernel_rfl) (by kernel_rfl) (by kernel_rfl) (fun _ _ _ h => h) (.inl ⟨by rfl, fun V hV => by have c0 := (cellOf hV lt0).trans x0; have d0 := (cellOf hV ltX).trans y0; have d1 := (cellOf hV ltX).trans y1; have d2 := (cellOf hV ltX).trans y2; clear hV; go_simp⟩) hHeld ?_
              try simp only [Act.put, qB, qC, qE, qF, qG]
              refine wpAnyH_ready (rs := [1]) (by kernel_rfl) (by simp) ?_
              refine AllReadyH.cons rfl (fun K hK => ?_) AllReadyH.nil
              go_simp
              refine (Hrow.out _).mono ?_
              rintro e w4 ⟨rfl, hb4⟩
              refine hK.out _ _ (Below.trans hHeld (hb4.mono hHeld.size)) (fun hHeld => ?_)
              clear hK K
              try simp only [Act.put, qB, qC, qD, qE, qF, qG]
              refine wpAnyH_take (i := 2) (v := .bool false) rfl (by kernel_rfl) (by kernel_rfl) (by kernel_rfl) (fun _ _ _ h => h) (.inl ⟨by rfl, fun V hV => by have c0 := (cellOf hV lt0).trans x0; have d0 := (cellOf hV ltX).trans y0; have d1 := (cellOf hV ltX).trans y1; have d2 := (cellOf hV ltX).trans y2; clear hV; go_simp⟩) hHeld ?_
              try simp only [Act.put, qB, qC, qD, qE, qF, qG]
              refine wpAnyH_take (i := 3) (v := .bool false) rfl (by kernel_rfl) (by kernel_rfl) (by kernel_rfl) (fun _ _ _ h => h) (.inl ⟨by rfl, fun V hV => by have c0 := (cellOf hV lt0).trans x0; have d0 := (cellOf hV ltX).trans y0; have d1 := (cellOf hV ltX).trans y1; have d2 := (cellOf hV ltX).trans y2; clear hV; go_simp⟩) hHeld ?_
              try simp only [Act.put, qB, qC, qD, qE, qF, qG]
              refine wpAnyH_take (i := 4) (v := .pointer (some ⟨rb, 0, none⟩)) rfl (by kernel_rfl) (by kernel_rfl) (by kernel_rfl) (fun _ _ _ h => h) (.inl ⟨by rfl, fun V hV => by have c0 := (cellOf hV lt0).trans x0; have d0 := (cellOf hV ltX).trans y0; have d1 := (cellOf hV ltX).trans y1; have d2 := (cellOf hV ltX).trans y2; clear hV; go_simp⟩) hHeld ?_
              try simp only [Act.put, qB, qC, qD, qE, qF, qG]
              refine wpAnyH_take (i := 5) (v := .pointer (some ⟨rb, 0, none⟩)) rfl (by kernel_rfl) (by kernel_rfl) (by kernel_rfl) (fun _ _ _ h => h) (.inl ⟨by rfl, fun V hV => by have c0 := (cellOf hV lt0).trans x0; have d0 := (cellOf hV ltX).trans y0; have d1 := (cellOf hV ltX).trans y1; have d2 := (cellOf hV ltX).trans y2; clear hV; go_simp⟩) hHeld ?_
              try simp only [Act.put, qB, qC, qD, qE, qF, qG]
              refine wpAnyH_take (i := 6) (v := .pointer (some ⟨rb, 0, none⟩)) rfl (by kernel_rfl) (by kernel_rfl) (by kernel_rfl) (fun _ _ _ h => h) (.inl ⟨by rfl, fun V hV => by have c0 := (cellOf hV lt0).trans x0; have d0 := (cellOf hV ltX).trans y0; have d1 := (cellOf hV ltX).trans y1; have d2 := (cellOf hV ltX).trans y2; clear hV; go_simp⟩) hHeld ?_
              try simp only [Act.put, qB, qC, qD, qE, qF, qG]
              refine wpAnyH_take (i := 7) (v := .pointer (some ⟨rb, 0, none⟩)) rfl (by kernel_rfl) (by kernel_rfl) (by kernel_rfl) (fun _ _ _ h => h) (.inl ⟨by rfl, fun V hV => by have c0 := (cellOf hV lt0).trans x0; have d0 := (cellOf hV ltX).trans y0; have d1 := (cellOf hV ltX).trans y1; have d2 := (cellOf hV ltX).trans y2; clear hV; go_simp⟩) hHeld ?_
              try simp only [Act.put, qB, qC, qD, qE, qF, qG]
              refine wpAnyH_take (i := 8) (v := .string ⟨s.toArray⟩) rfl (by kernel_rfl) (by kernel_rfl) (by kernel_rfl) (fun _ _ _ h => h) (.inl ⟨by rfl, fun V hV => by have c0 := (cellOf hV lt0).trans x0; have d0 := (cellOf hV ltX).trans y0; have d1 := (cellOf hV ltX).trans y1; have d2 := (cellOf hV ltX).trans y2; clear hV; go_simp⟩) hHeld ?_
              try simp only [Act.put, qB, qC, qD, qE, qF, qG]
              refine wpAnyH_take (i := 9) (v := .int .i64 (s.length : Int)) rfl (by kernel_rfl) (by kernel_rfl) (by kernel_rfl) (fun _ _ _ h => h) (.inl ⟨by rfl, fun V hV => by have c0 := (cellOf hV lt0).trans x0; have d0 := (cellOf hV ltX).trans y0; have d1 := (cellOf hV ltX).trans y1; have d2 := (cellOf hV ltX).trans y2; clear hV; go_simp⟩) hHeld ?_
              try simp only [Act.put, qB, qC, qD, qE, qF, qG]
              refine wpAnyH_take (i := 10) (v := .pointer (some ⟨X, 1, none⟩)) rfl (by kernel_rfl) (by kernel_rfl) (by kernel_rfl) (fun _ _ _ h => h) (.inl ⟨by rfl, fun V hV => by have c0 := (cellOf hV lt0).trans x0; have d0 := (cellOf hV ltX).trans y0; have d1 := (cellOf hV ltX).trans y1; have d2 := (cellOf hV ltX).trans y2; clear hV; go_simp⟩) hHeld ?_
              try simp only [Act.put, qB, qC, qD, qE, qF, qG]
              refine wpAnyH_take (i := 11) (v := .int .i64 (nn : Int)) rfl (by kernel_rfl) (by kernel_rfl) (by kernel_rfl) (fun _ _ _ h => h) (.inl ⟨by rfl, fun V hV => by have c0 := (cellOf hV lt0).trans x0; have d0 := (cellOf hV ltX).trans y0; have d1 := (cellOf hV ltX).trans y1; have d2 := (cellOf hV ltX).trans y2; clear hV; go_simp⟩) hHeld ?_
              try simp only [Act.put, qB, qC, qD, qE, qF, qG]
              refine wpAnyH_take (i := 12) (v := .bool false) rfl (by kernel_rfl) (by kernel_rfl) (by kernel_rfl) (fun _ _ _ h => h) (.inl ⟨by rfl, fun V hV => by have c0 := (cellOf hV lt0).trans x0; have d0 := (cellOf hV ltX).trans y0; have d1 := (cellOf hV ltX).trans y1; have d2 := (cellOf hV ltX).trans y2; clear hV; go_simp⟩) hHeld ?_
              try simp only [Act.put, qB, qC, qD, qE, qF, qG]
              refine wpAnyH_take (i := 13) (v := .bool false) rfl (by kernel_rfl) (by kernel_rfl) (by kernel_rfl) (fun _ _ _ h => h) (.inl ⟨by rfl, fun V hV => by have c0 := (cellOf hV lt0).trans x0; have d0 := (cellOf hV ltX).trans y0; have d1 := (cellOf hV ltX).trans y1; have d2 := (cellOf hV ltX).trans y2; clear hV; go_simp⟩) hHeld ?_
              try simp only [Act.put, qB, qC, qD, qE, qF, qG]
              refine wpAnyH_take (i := 14) (v := .bool false) rfl (by kernel_rfl) (by kernel_rfl) (by kernel_rfl) (fun _ _ _ h => h) (.inl ⟨by rfl, fun V hV => by have c0 := (cellOf hV lt0).trans x0; have d0 := (cellOf hV ltX).trans y0; have d1 := (cellOf hV ltX).trans y1; have d2 := (cellOf hV ltX).trans y2; clear hV; go_simp⟩) hHeld ?_
              try simp only [Act.put, qB, qC, qD, qE, qF, qG]
              refine wpAnyH_take (i := 15) (v := .pointer (some ⟨X, 1, none⟩)) rfl (by kernel_rfl) (by kernel_rfl) (by kernel_rfl) (fun _ _ _ h => h) (.inl ⟨by rfl, fun V hV => by have c0 := (cellOf hV lt0).trans x0; have d0 := (cellOf hV ltX).trans y0; have d1 := (cellOf hV ltX).trans y1; have d2 := (cellOf hV ltX).trans y2; clear hV; go_simp⟩) hHeld ?_
              try simp only [Act.put, qB, qC, qD, qE, qF, qG]
              refine wpAnyH_take (i := 16) (v := .int .i64 (nn : Int)) rfl (by kernel_rfl) (by kernel_rfl) (by kernel_rfl) (fun _ _ _ h => h) (.inl ⟨by rfl, fun V hV => by have c0 := (cellOf hV lt0).trans x0; have d0 := (cellOf hV ltX).trans y0; have d1 := (cellOf hV ltX).trans y1; have d2 := (cellOf hV ltX).trans y2; clear hV; go_simp⟩) hHeld ?_
              try simp only [Act.put, qB, qC, qD, qE, qF, qG]
              refine wpAnyH_take (i := 17) (v := .bool true) rfl (by kernel_rfl) (by kernel_rfl) (by kernel_rfl) (fun _ _ _ h => h) (.inl ⟨by rfl, fun V hV => by have c0 := (cellOf hV lt0).trans x0; have d0 := (cellOf hV ltX).trans y0; have d1 := (cellOf hV ltX).trans y1; have d2 := (cellOf hV ltX).trans y2; clear hV; go_simp; first | done | omega | (have hq := Hz.out; omega)⟩) hHeld ?_
              try simp only [Act.put, qB, qC, qD, qE, qF, qG]
              refine wpAnyH_take (i := 18) (v := .bool true) rfl (by kernel_rfl) (by kernel_rfl) (by kernel_rfl) (fun _ _ _ h => h) (.inl ⟨by rfl, fun V hV => by have c0 := (cellOf hV lt0).trans x0; have d0 := (cellOf hV ltX).trans y0; have d1 := (cellOf hV ltX).trans y1; have d2 := (cellOf hV ltX).trans y2; clear hV; go_simp⟩) hHeld ?_
              try simp only [Act.put, qB, qC, qD, qE, qF, qG]
              refine wpAnyH_take (i := 19) (v := .agg #[.int .u8 (markU nn : Int), .int .i64 (nn : Int), .complex .f64 (fltN lo) (fltN hi)]) rfl (by kernel_rfl) (by kernel_rfl) (by kernel_rfl) (fun _ _ _ h => h) (.inl ⟨by rfl, fun V hV => by have c0 := (cellOf hV lt0).trans x0; have d0 := (cellOf hV ltX).trans y0; have d1 := (cellOf hV ltX).trans y1; have d2 := (cellOf hV ltX).trans y2; clear hV; go_simp⟩) hHeld ?_
              try simp only [Act.put, qB, qC, qD, qE, qF, qG]
              refine wpAnyH_take (i := 20) (v := .pointer (some ⟨rb, 0, none⟩)) rfl (by kernel_rfl) (by kernel_rfl) (by kernel_rfl) (fun _ _ _ h => h) (.inl ⟨by rfl, fun V hV => by have c0 := (cellOf hV lt0).trans x0; have d0 := (cellOf hV ltX).trans y0; have d1 := (cellOf hV ltX).trans y1; have d2 := (cellOf hV ltX).trans y2; clear hV; go_simp⟩) hHeld ?_
              try simp only [Act.put, qB, qC, qD, qE, qF, qG]
              refine wpAnyH_take (i := 21) (v := .pointer (some ⟨rb, 0, none⟩)) rfl (by kernel_rfl) (by kernel_rfl) (by kernel_rfl) (fun _ _ _ h => h) (.inl ⟨by rfl, fun V hV => by have c0 := (cellOf hV lt0).trans x0; have d0 := (cellOf hV ltX).trans y0; have d1 := (cellOf hV ltX).trans y1; have d2 := (cellOf hV ltX).trans y2; clear hV; go_simp⟩) hHeld ?_
              try simp only [Act.put, qB, qC, qD, qE, qF, qG]
              refine wpAnyH_take (i := 22) (v := .pointer (some ⟨rb, 0, none⟩)) rfl (by kernel_rfl) (by kernel_rfl) (by kernel_rfl) (fun _ _ _ h => h) (.inl ⟨by rfl, fun V hV => by have c0 := (cellOf hV lt0).trans x0; have d0 := (cellOf hV ltX).trans y0; have d1 := (cellOf hV ltX).trans y1; have d2 := (cellOf hV ltX).trans y2; clear hV; go_simp⟩) hHeld ?_
              try simp only [Act.put, qB, qC, qD, qE, qF, qG]
              refine wpAnyH_take (i := 23) (v := .pointer (some ⟨rb, 0, none⟩)) rfl (by kernel_rfl) (by kernel_rfl) (by kernel_rfl) (fun _ _ _ h => h) (.inl ⟨by rfl, fun V hV => by have c0 := (cellOf hV lt0).trans x0; have d0 := (cellOf hV ltX).trans y0; have d1 := (cellOf hV ltX).trans y1; have d2 := (cellOf hV ltX).trans y2; clear hV; go_simp⟩) hHeld ?_
              try simp only [Act.put, qB, qC, qD, qE, qF, qG]
              refine wpAnyH_take (i := 24) (v := .string ⟨s.toArray⟩) rfl (by kernel_rfl) (by kernel_rfl) (by kernel_rfl) (fun _ _ _ h => h) (.inl ⟨by rfl, fun V hV => by have c0 := (cellOf hV lt0).trans x0; have d0 := (cellOf hV ltX).trans y0; have d1 := (cellOf hV ltX).trans y1; have d2 := (cellOf hV ltX).trans y2; clear hV; go_simp⟩) hHeld ?_
              try simp only [Act.put, qB, qC, qD, qE, qF, qG]
              refine wpAnyH_take (i := 25) (v := .int .u8 (s[1].toNat : Int)) rfl (by kernel_rfl) (by kernel_rfl) (by kernel_rfl) (fun _ _ _ h => h) (.inl ⟨by rfl, fun V hV => by have c0 := (cellOf hV lt0).trans x0; have d0 := (cellOf hV ltX).trans y0; have d1 := (cellOf hV ltX).trans y1; have d2 := (cellOf hV ltX).trans y2; clear hV; go_simp; first | done | (rw [dif_pos (by omega)]; rfl)⟩) hHeld ?_
              try simp only [Act.put, qB, qC, qD, qE, qF, qG]
              refine wpAnyH_ready (rs := [26]) (by kernel_rfl) (by simp) ?_
              refine AllReadyH.cons rfl (fun K hK => ?_) AllReadyH.nil
              go_simp
              refine (Hsec.out _).mono ?_
              rintro e w4 ⟨rfl, hb4⟩
              refine hK.out _ _ (Below.trans hHeld (hb4.mono hHeld.size)) (fun hHeld => ?_)
              clear hK K
              try simp only [Act.put, qB, qC, qD, qE, qF, qG]
              refine wpAnyH_take (i := 27) (v := .bool false) rfl (by kernel_rfl) (by kernel_rfl) (by kernel_rfl) (fun _ _ _ h => h) (.inl ⟨by rfl, fun V hV => by have c0 := (cellOf hV lt0).trans x0; have d0 := (cellOf hV ltX).trans y0; have d1 := (cellOf hV ltX).trans y1; have d2 := (cellOf hV ltX).trans y2; clear hV; go_simp⟩) hHeld ?_
              try simp only [Act.put, qB, qC, qD, qE, qF, qG]
              refine wpAnyH_take (i := 28) (v := .bool false) rfl (by kernel_rfl) (by kernel_rfl) (by kernel_rfl) (fun _ _ _ h => h) (.inl ⟨by rfl, fun V hV => by have c0 := (cellOf hV lt0).trans x0; have d0 := (cellOf hV ltX).trans y0; have d1 := (cellOf hV ltX).trans y1; have d2 := (cellOf hV ltX).trans y2; clear hV; go_simp⟩) hHeld ?_
              try simp only [Act.put, qB, qC, qD, qE, qF, qG]
              refine wpAnyH_take (i := 29) (v := .bool false) rfl (by kernel_rfl) (by kernel_rfl) (by kernel_rfl) (fun _ _ _ h => h) (.inl ⟨by rfl, fun V hV => by have c0 := (cellOf hV lt0).trans x0; have d0 := (cellOf hV ltX).trans y0; have d1 := (cellOf hV ltX).trans y1; have d2 := (cellOf hV ltX).trans y2; clear hV; go_simp⟩) hHeld ?_
              try simp only [Act.put, qB, qC, qD, qE, qF, qG]
              refine wpAnyH_done (by kernel_rfl) ?_ _
              refine NoPanic.normal ?_
              clear x0 y0 y1 y2
              go_wp2_with fail
              go_meet
              exact ⟨rfl, hHeld⟩
          case rest =>
            obtain ⟨rfl, hb5⟩ := hcut
            go_upto_region 6 with fail
            obtain ⟨u, hu⟩ : ∃ u, u = (s.drop 1).take nn := ⟨_, rfl⟩
            have hsl : (⟨s.toArray⟩ : ByteArray).extract 1 (nn + 1) = ⟨u.toArray⟩ := by rw [hu, text_seg]; simp
            have hul : u.length = nn := by rw [hu]; simp; omega
            have hug : ∀ (j : Nat) (h1 : j < u.length) (h2 : j + 1 < s.length), u[j] = s[j + 1] := fun j h1 h2 => by
              subst hu
              rw [List.getElem_take, List.getElem_drop]
              congr 1
              omega
            have Hu := Lib.hid (And.intro hul hug)
            have hsz6 : (⟨u.toArray⟩ : ByteArray).size = nn := hul
            clear hu hul hug
            refine wp_region_noPanic ?_
            refine wp_region_held_drew (S := fun V => Below W2.heap.size W2 V) (by kernel_rfl) hb5.drew (fun hHeld => ?_)
            refine wpAnyH_take (i := 0) (v := .pointer (some ⟨rb, 0, none⟩)) rfl (by kernel_rfl) (by kernel_rfl) (by kernel_rfl) (fun _ _ _ h => h) (.inl ⟨by rfl, fun V hV => by have c0 := (cellOf hV lt0).trans x0; have d0 := (cellOf hV ltX).trans y0; have d1 := (cellOf hV ltX).trans y1; have d2 := (cellOf hV ltX).trans y2; clear hV; go_simp⟩) hHeld ?_
            try simp only [Act.put, qB, qC, qE, qF, qG]
            refine wpAnyH_take (i := 1) (v := .pointer (some ⟨rb, 0, none⟩)) rfl (by kernel_rfl) (by kernel_rfl) (by kernel_rfl) (fun _ _ _ h => h) (.inl ⟨by rfl, fun V hV => by have c0 := (cellOf hV lt0).trans x0; have d0 := (cellOf hV ltX).trans y0; have d1 := (cellOf hV ltX).trans y1; have d2 := (cellOf hV ltX).trans y2; clear hV; go_simp⟩) hHeld ?_
            try simp only [Act.put, qB, qC, qD, qE, qF, qG]
            refine wpAnyH_take (i := 2) (v := .pointer (some ⟨rb, 0, none⟩)) rfl (by kernel_rfl) (by kernel_rfl) (by kernel_rfl) (fun _ _ _ h => h) (.inl ⟨by rfl, fun V hV => by have c0 := (cellOf hV lt0).trans x0; have d0 := (cellOf hV ltX).trans y0; have d1 := (cellOf hV ltX).trans y1; have d2 := (cellOf hV ltX).trans y2; clear hV; go_simp⟩) hHeld ?_
            try simp only [Act.put, qB, qC, qD, qE, qF, qG]
            refine wpAnyH_take (i := 3) (v := .pointer (some ⟨rb, 0, none⟩)) rfl (by kernel_rfl) (by kernel_rfl) (by kernel_rfl) (fun _ _ _ h => h) (.inl ⟨by rfl, fun V hV => by have c0 := (cellOf hV lt0).trans x0; have d0 := (cellOf hV ltX).trans y0; have d1 := (cellOf hV ltX).trans y1; have d2 := (cellOf hV ltX).trans y2; clear hV; go_simp⟩) hHeld ?_
            try simp only [Act.put, qB, qC, qD, qE, qF, qG]
            refine wpAnyH_take (i := 4) (v := .string ⟨s.toArray⟩) rfl (by kernel_rfl) (by kernel_rfl) (by kernel_rfl) (fun _ _ _ h => h) (.inl ⟨by rfl, fun V hV => by have c0 := (cellOf hV lt0).trans x0; have d0 := (cellOf hV ltX).trans y0; have d1 := (cellOf hV ltX).trans y1; have d2 := (cellOf hV ltX).trans y2; clear hV; go_simp⟩) hHeld ?_
            try simp only [Act.put, qB, qC, qD, qE, qF, qG]
            refine wpAnyH_take (i := 5) (v := .pointer (some ⟨X, 1, none⟩)) rfl (by kernel_rfl) (by kernel_rfl) (by kernel_rfl) (fun _ _ _ h => h) (.inl ⟨by rfl, fun V hV => by have c0 := (cellOf hV lt0).trans x0; have d0 := (cellOf hV ltX).trans y0; have d1 := (cellOf hV ltX).trans y1; have d2 := (cellOf hV ltX).trans y2; clear hV; go_simp⟩) hHeld ?_
            try simp only [Act.put, qB, qC, qD, qE, qF, qG]
            refine wpAnyH_take (i := 6) (v := .int .i64 (nn : Int)) rfl (by kernel_rfl) (by kernel_rfl) (by kernel_rfl) (fun _ _ _ h => h) (.inl ⟨by rfl, fun V hV => by have c0 := (cellOf hV lt0).trans x0; have d0 := (cellOf hV ltX).trans y0; have d1 := (cellOf hV ltX).trans y1; have d2 := (cellOf hV ltX).trans y2; clear hV; go_simp⟩) hHeld ?_
            try simp only [Act.put, qB, qC, qD, qE, qF, qG]
            refine wpAnyH_take (i := 7) (v := .int .i64 ((nn : Int) + 1)) rfl (by kernel_rfl) (by kernel_rfl) (by kernel_rfl) (fun _ _ _ h => h) (.inl ⟨by rfl, fun V hV => by have c0 := (cellOf hV lt0).trans x0; have d0 := (cellOf hV ltX).trans y0; have d1 := (cellOf hV ltX).trans y1; have d2 := (cellOf hV ltX).trans y2; clear hV; go_simp; first | done | exact wraps_i64 _ (by omega) (by omega)⟩) hHeld ?_
            try simp only [Act.put, qB, qC, qD, qE, qF, qG]
            refine wpAnyH_take (i := 8) (v := .string ⟨u.toArray⟩) rfl (by kernel_rfl) (by kernel_rfl) (by kernel_rfl) (fun _ _ _ h => h) (.inl ⟨by rfl, fun V hV => by have c0 := (cellOf hV lt0).trans x0; have d0 := (cellOf hV ltX).trans y0; have d1 := (cellOf hV ltX).trans y1; have d2 := (cellOf hV ltX).trans y2; clear hV; go_simp; first | done | (rw [if_pos (by omega), if_pos (by omega)])⟩) hHeld ?_
            try simp only [Act.put, qB, qC, qD, qE, qF, qG]
            refine wpAnyH_take (i := 11) (v := .int .i64 0) rfl (by kernel_rfl) (by kernel_rfl) (by kernel_rfl) (fun _ _ _ h => h) (.inl ⟨by rfl, fun V hV => by have c0 := (cellOf hV lt0).trans x0; have d0 := (cellOf hV ltX).trans y0; have d1 := (cellOf hV ltX).trans y1; have d2 := (cellOf hV ltX).trans y2; clear hV; go_simp⟩) hHeld ?_
            try simp only [Act.put, qB, qC, qD, qE, qF, qG]
            refine wpAnyH_ready (rs := [9]) (by kernel_rfl) (by simp) ?_
            refine AllReadyH.cons rfl (fun K hK => ?_) AllReadyH.nil
            obtain ⟨c6, W6, hcv, hBy, hb6⟩ := run_bytes ⟨u.toArray⟩ wc.drew
            rw [hsz6] at hcv hBy
            go_simp
            refine hK.out _ _ (Below.trans hb5.drew (hb6.mono hb5.size)) (fun hHeld => ?_)
            clear hK K
            try simp only [Act.put, qB, qC, qD, qE, qF, qG]
            refine wpAnyH_take (i := 10) (v := .int .i64 (nn : Int)) rfl (by kernel_rfl) (by kernel_rfl) (by kernel_rfl) (fun _ _ _ h => h) (.inl ⟨by rfl, fun V hV => by have c0 := (cellOf hV lt0).trans x0; have d0 := (cellOf hV ltX).trans y0; have d1 := (cellOf hV ltX).trans y1; have d2 := (cellOf hV ltX).trans y2; clear hV; go_simp⟩) hHeld ?_
            try simp only [Act.put, qB, qC, qD, qE, qF, qG]
            refine wpAnyH_done (by kernel_rfl) ?_ _
            refine NoPanic.normal ?_
            generalize hWW : W6 = W7 at *
            clear hWW hcv hb6
            rw [show wc.drew.heap.size = wc.heap.size from rfl] at hBy
            generalize wc.heap.size = G at *
            have HB7 := Lib.hid hHeld
            have HBy := Lib.hid hBy
            have Hnb := Lib.hid hbad
            have Hgd := Lib.hid (fun (j : Nat) (hj : j < s.length) (hb : 1 ≤ j) (hn : j ≤ nn) (hbd : badU lo hi j s[j].toNat) => dec_bad h0 Hru.out hb hn hj hbd)
            have Hcx := Lib.hid (And.intro y0 y1)
            clear hBy hHeld hsec hru hru2 hbad x0 y0 y1 y2 hb5
            go_wp2_with fail
            go_loopw [64] (fun i wr => ∃ k : Nat, k ≤ nn ∧ i = .int .i64 (k : Int) ∧ (∀ j : Nat, j < k → ∀ hj : j + 1 < s.length, 128 ≤ s[j + 1].toNat ∧ s[j + 1].toNat ≤ 191) ∧ wr = W7) (fun i _ => nn - (RowKit.intOf i).toNat)
            case atStart => exact ⟨0, Nat.zero_le _, rfl, fun j h => absurd h (by omega), rfl⟩
            case round =>
              obtain ⟨k, hk, rfl, hok, hwr⟩ := hrel
              subst hwr
              rcases Nat.lt_or_ge k nn with hlt | hge
              · obtain ⟨g, o, e7, hgl7, hcell⟩ := HBy.out.at_ (by omega)
                obtain ⟨rfl, rfl⟩ : G = g ∧ 0 = o := by simpa using e7
                have hkl : k + 1 < s.length := by omega
                have hku : k < u.length := by rw [Hu.out.1]; exact hlt
                have hbv := hcell k hku
                rw [Hu.out.2 k hku hkl, Nat.zero_add] at hbv
                have hbd1 : badU lo hi (k + 1) s[k + 1].toNat → decU s = none := fun h => Hgd.out (k + 1) hkl (by omega) (by omega) h
                unfold badU at hbd1
                have hok2 : (128 ≤ s[k + 1].toNat ∧ s[k + 1].toNat ≤ 191) → ∀ j : Nat, j < k + 1 → ∀ hj : j + 1 < s.length, 128 ≤ s[j + 1].toNat ∧ s[j + 1].toNat ≤ 191 := fun hx j h1 h2 => by
                  rcases Nat.lt_or_ge j k with h3 | h3
                  · exact hok j h3 h2
                  · obtain rfl : j = k := by omega
                    exact hx
                have hb256 : s[k + 1].toNat < 256 := s[k + 1].toNat_lt
                generalize s[k + 1].toNat = b at hbv hbd1 hok2 hb256
                have Hok2 := Lib.hid hok2
                have Hbd1 := Lib.hid hbd1
                clear e7 hcell hok hok2 hbd1 hHeld
                by_cases h128 : b < 128
                · have hdec := Hbd1.out (.inr (.inl h128))
                  have hHeld := HB7.out
                  have q1 : (b : Int) < 128 := by omega
                  clear Hbd1 Hok2 h128
                  have hbV := Hbw2.out.trans (hHeld.mono (Nat.le_of_lt ltX))
                  have hz := (hHeld.block rb lt0).trans HbW.out
                  have v1 := cell_blk hz 1
                  have v2 := frozen_blk hz 1
                  have hn := next_none (p := p) (by rw [HX.out]; exact hbV) hz hdec
                  have Hn := Lib.hid hn
                  have hg1 := (cellOf hbV hgl).trans Hg.out
                  clear hn hz hbV hHeld
                  go_wp2_with fail
                  go_step3
                  go_simp
                  show Ql (.goto 0) _ _
                  subst hQl
                  refine landed_goto (by rfl) ?_
                  go_wp2_with fail
                  rw [Exit.noGoto_ret]
                  go_ret2
                  exact Hn.out
                · by_cases h191 : 191 < b
                  · have hdec := Hbd1.out (.inr (.inr h191))
                    have hHeld := HB7.out
                    have q1 : ¬ (b : Int) < 128 := by omega
                    have q2 : (191 : Int) < (b : Int) := by omega
                    clear Hbd1 Hok2 h128 h191
                    have hbV := Hbw2.out.trans (hHeld.mono (Nat.le_of_lt ltX))
                    have hz := (hHeld.block rb lt0).trans HbW.out
                    have v1 := cell_blk hz 1
                    have v2 := frozen_blk hz 1
                    have hn := next_none (p := p) (by rw [HX.out]; exact hbV) hz hdec
                    have Hn := Lib.hid hn
                    have hg1 := (cellOf hbV hgl).trans Hg.out
                    clear hn hz hbV hHeld
                    go_wp2_with fail
                    go_step3
                    go_simp
                    show Ql (.goto 0) _ _
                    subst hQl
                    refine landed_goto (by rfl) ?_
                    go_wp2_with fail
                    rw [Exit.noGoto_ret]
                    go_ret2
                    exact Hn.out
                  · have q1 : ¬ (b : Int) < 128 := by omega
                    have q2 : ¬ (191 : Int) < (b : Int) := by omega
                    have hn := Hok2.out ⟨by omega, by omega⟩
                    have Hn := Lib.hid hn
                    clear Hbd1 Hok2 h128 h191 hn
                    go_wp2_with fail
                    go_roundw
                    case rel => exact ⟨k + 1, by omega, by go_num, Hn.out, by first | trivial | rfl⟩
                    case measure => simp [RowKit.intOf]; omega
              · obtain rfl : nn = k := by omega
                have hdg : decU s = some (accU s nn nn, nn + 1) := dec_good Hru.out (by omega) fun i hi1 h1 h2 hb => by
                  have hnb := Hnb.out
                  unfold badU at hb
                  obtain ⟨j, rfl⟩ : ∃ j, i = j + 1 := ⟨i - 1, by omega⟩
                  have hq := hok j (by omega) hi1
                  rcases hb with ⟨e1, e2⟩ | e2
                  · have : s.getD 1 0 = s[j + 1] := by
                      obtain rfl : j = 0 := by omega
                      simp [List.getD_eq_getElem?_getD, hi1]
                    rw [this] at hnb
                    omega
                  · omega
                have Hdg := Lib.hid hdg
                have hgr := (HB7.out.block rb lt0).trans HbW.out
                have x8 := cell_blk hgr 0
                have hcx := Hcx.out
                have y8 := (cellOf HB7.out ltX).trans hcx.1
                have y9 := (cellOf HB7.out ltX).trans hcx.2
                have hok' : ∀ j : Nat, j < nn → ∀ hj : j + 1 < s.length, 128 ≤ s[j + 1].toNat ∧ s[j + 1].toNat ≤ 191 := hok
                have Hok := Lib.hid hok'
                have HgW := Lib.hid hgr
                have hsub : IntKind.u8.wrap ((s[0].toNat : Int) - (markU nn : Int)) = ((s[0].toNat - markU nn : Nat) : Int) := by
                  rw [IntKind.wrap_u8]; omega
                clear hdg hgr hcx hok hok' hHeld
                go_upto_region 11 with fail
                go_quiet (fail)
                simp only [byte_at s 0 _ h0]
                rw [show ((s[0].toNat : Int) - (markU nn : Int)) % 256 = ((accU s nn 0 : Nat) : Int) by rw [accU_zero, Hhd.out]; omega]
                have Hacc := Lib.hid (fun k => accU_lt s nn k)
                have Hacs := Lib.hid (fun (k : Nat) (h : k + 1 < s.length) => accU_step s nn k h)
                obtain ⟨q, hq⟩ : ∃ q, q = s.take (nn + 1) := ⟨_, rfl⟩
                have hql : q.length = nn + 1 := by rw [hq]; simp; omega
                have hqu : q.drop 1 = u := by
                  apply List.ext_getElem
                  · rw [List.length_drop, hql, Hu.out.1]; omega
                  · intro j h1 h2
                    rw [Hu.out.2 j h2 (by have := Hu.out.1; omega)]
                    subst hq
                    rw [List.getElem_drop, List.getElem_take]
                    congr 1
                    omega
                have hsl2 : (⟨q.toArray⟩ : ByteArray).extract 1 q.length = ⟨u.toArray⟩ := by rw [text_from, hqu]
                have hq1 : 1 ≤ q.length := by omega
                have htk := left_take rb (nn + 1) E s (wr.drewN nq).drew HgW.out (by omega) hs
                rw [← hq, show ((nn + 1 : Nat) : Int) = (nn : Int) + 1 by omega] at htk
                have Htk := Lib.hid htk
                have hsr : X < wr.heap.size := by have := HB7.out.size; omega
                have HXr := Lib.hid (show X ≠ rb by omega)
                have hbA : Below wr.heap.size wr (wr.drewN nq).drew := (below_drewN _ _ _).drew
                have HbA := Lib.hid hbA
                have hgA : (wr.drewN nq).drew.heap[rb]? = some (.cells #[.string ⟨s.toArray⟩, E] 109 (0, 0)) := HgW.out
                have HgA := Lib.hid hgA
                have x9 : (wr.drewN nq).drew.cell? ⟨X, 1, none⟩ = some (.int .i64 (nn : Int)) := y9
                have hsA : (wr.drewN nq).drew.heap.size = wr.heap.size := rfl
                clear x8 y8 y9 hsub htk hq hql hqu hbA hgA hsl
                go_upto_region 12 with fail
                refine wp_region_noPanic ?_
                refine wp_region_held_drew (S := fun V => V.cell? ⟨X, 1, none⟩ = some (.int .i64 (nn : Int))) (by kernel_rfl) x9 (fun hHeld => ?_)
                refine wpAnyH_take (i := 0) (v := .pointer (some ⟨rb, 0, none⟩)) rfl (by kernel_rfl) (by kernel_rfl) (by kernel_rfl) (fun _ _ _ h => h) (.inl ⟨by rfl, fun V hV => by go_simp⟩) hHeld ?_
                try simp only [Act.put, qB, qC, qE, qF, qG]
                refine wpAnyH_take (i := 1) (v := .pointer (some ⟨rb, 0, none⟩)) rfl (by kernel_rfl) (by kernel_rfl) (by kernel_rfl) (fun _ _ _ h => h) (.inl ⟨by rfl, fun V hV => by go_simp⟩) hHeld ?_
                try simp only [Act.put, qB, qC, qD, qE, qF, qG]
                refine wpAnyH_take (i := 2) (v := .pointer (some ⟨rb, 0, none⟩)) rfl (by kernel_rfl) (by kernel_rfl) (by kernel_rfl) (fun _ _ _ h => h) (.inl ⟨by rfl, fun V hV => by go_simp⟩) hHeld ?_
                try simp only [Act.put, qB, qC, qD, qE, qF, qG]
                refine wpAnyH_take (i := 3) (v := .pointer (some ⟨X, 1, none⟩)) rfl (by kernel_rfl) (by kernel_rfl) (by kernel_rfl) (fun _ _ _ h => h) (.inl ⟨by rfl, fun V hV => by go_simp⟩) hHeld ?_
                try simp only [Act.put, qB, qC, qD, qE, qF, qG]
                refine wpAnyH_take (i := 4) (v := .int .i64 (nn : Int)) rfl (by kernel_rfl) (by kernel_rfl) (by kernel_rfl) (fun _ _ _ h => h) (.inl ⟨by rfl, fun V hV => by go_simp⟩) hHeld ?_
                try simp only [Act.put, qB, qC, qD, qE, qF, qG]
                refine wpAnyH_take (i := 5) (v := .int .i64 ((nn : Int) + 1)) rfl (by kernel_rfl) (by kernel_rfl) (by kernel_rfl) (fun _ _ _ h => h) (.inl ⟨by rfl, fun V hV => by go_simp; first | done | exact wraps_i64 _ (by omega) (by omega)⟩) hHeld ?_
                try simp only [Act.put, qB, qC, qD, qE, qF, qG]
                refine wpAnyH_take (i := 10) (v := .int .i64 0) rfl (by kernel_rfl) (by kernel_rfl) (by kernel_rfl) (fun _ _ _ h => h) (.inl ⟨by rfl, fun V hV => by go_simp⟩) hHeld ?_
                try simp only [Act.put, qB, qC, qD, qE, qF, qG]
                refine wpAnyH_ready (rs := [6]) (by kernel_rfl) (by simp) ?_
                refine AllReadyH.cons rfl (fun K hK => ?_) AllReadyH.nil
                go_simp
                refine (Htk.out).mono ?_
                rintro e W8 ⟨rfl, hW8⟩
                have hX8 : X < W8.heap.size := by rw [hW8]; simp [World.setCell]; exact hsr
                refine hK.out _ _ ((by rw [hW8]; exact (World.cell?_setCell_other _ _ _ _ (fun e => HXr.out (by injection e with e1; exact e1.symm))).trans hHeld)) (fun hHeld => ?_)
                have HW8 := Lib.hid hW8
                clear hW8
                clear hK K
                try simp only [Act.put, qB, qC, qD, qE, qF, qG]
                refine wpAnyH_take (i := 7) (v := .string ⟨u.toArray⟩) rfl (by kernel_rfl) (by kernel_rfl) (by kernel_rfl) (fun _ _ _ h => h) (.inl ⟨by rfl, fun V hV => by go_simp; first | done | (intros; omega)⟩) hHeld ?_
                try simp only [Act.put, qB, qC, qD, qE, qF, qG]
                refine wpAnyH_ready (rs := [8]) (by kernel_rfl) (by simp) ?_
                refine AllReadyH.cons rfl (fun K hK => ?_) AllReadyH.nil
                obtain ⟨c9, W9, hcv, hBy, hb9⟩ := run_bytes ⟨u.toArray⟩ W8
                rw [hsz6] at hcv hBy
                go_simp
                refine hK.out _ _ ((cellOf hb9 hX8).trans hHeld) (fun hHeld => ?_)
                clear hK K
                try simp only [Act.put, qB, qC, qD, qE, qF, qG]
                refine wpAnyH_take (i := 9) (v := .int .i64 (nn : Int)) rfl (by kernel_rfl) (by kernel_rfl) (by kernel_rfl) (fun _ _ _ h => h) (.inl ⟨by rfl, fun V hV => by go_simp⟩) hHeld ?_
                try simp only [Act.put, qB, qC, qD, qE, qF, qG]
                refine wpAnyH_done (by kernel_rfl) ?_ _
                refine NoPanic.normal ?_
                have hW8 := HW8.out
                have hg8 : W8.heap[rb]? = some (.cells #[.string ⟨(s.drop (nn + 1)).toArray⟩, E] 109 (0, 0)) := by rw [hW8]; simpa using setCell_blk HgA.out 0 _
                have hs8 : W8.heap.size = wr.heap.size := by rw [hW8]; simp [World.setCell]
                have h8k : ∀ k, k ≠ rb → W8.heap[k]? = (wr.drewN nq).drew.heap[k]? := fun k hk => by rw [hW8]; exact Below.heap_setCell _ _ _ _ hk
                have h8o : W8.os = wr.os ∧ W8.tape = wr.tape ∧ W8.output = wr.output := by
                  rw [hW8]
                  exact ⟨HbA.out.os, HbA.out.tape, HbA.out.output⟩
                have hfin : ∀ Vf, Below W9.heap.size W9 Vf → NextP rb E p s w (.returned (.tuple #[.int .i64 ((accU s nn nn : Nat) : Int), .int .i64 ((nn + 1 : Nat) : Int)])) Vf := fun Vf hVf => by
                  unfold NextP
                  rw [Hdg.out]
                  have hw2 := Hbw2.out
                  have h27 := HB7.out
                  have hX := HX.out
                  have k1 := h27.size
                  have k2 := hb9.size
                  have k3 := hVf.size
                  refine ⟨⟨?_, ?_, ?_, ?_, fun k hk hn => ?_⟩, rfl, ?_⟩
                  · rw [hVf.os, hb9.os, h8o.1, h27.os, hw2.os]
                  · rw [hVf.tape, hb9.tape, h8o.2.1, h27.tape, hw2.tape]
                  · rw [hVf.output, hb9.output, h8o.2.2, h27.output, hw2.output]
                  · omega
                  · have hkr : k ≠ rb := fun e => hn (by rw [e])
                    rw [hVf.block k (by omega), hb9.block k (by omega), h8k k hkr, HbA.out.block k (by omega), h27.block k (by omega), hw2.block k (by omega)]
                  · rw [hVf.block rb (by omega), hb9.block rb (by omega)]
                    exact hg8
                have Hfin := Lib.hid hfin
                have hx9 : W9.cell? ⟨X, 1, none⟩ = some (.int .i64 (nn : Int)) := hHeld
                have HBy2 := Lib.hid hBy
                clear hfin h8o h8k hs8 hg8 hW8 hBy hcv hHeld hb9 x9 hX8
                generalize W8.heap.size = G2 at *
                go_wp2_with fail
                go_loopw [95, 5] (fun i v wr2 => ∃ k : Nat, k ≤ nn ∧ i = .int .i64 (k : Int) ∧ v = .int .i64 ((accU s nn k : Nat) : Int) ∧ wr2 = W9) (fun i _ _ => nn - (RowKit.intOf i).toNat)
                case atStart => exact ⟨0, Nat.zero_le _, rfl, rfl, rfl⟩
                case round =>
                  obtain ⟨k, hk, rfl, rfl, hwr⟩ := hrel
                  subst hwr
                  rcases Nat.lt_or_ge k nn with hlt | hge
                  · obtain ⟨g, o, e7, hgl7, hcell⟩ := HBy2.out.at_ (by omega)
                    obtain ⟨rfl, rfl⟩ : G2 = g ∧ 0 = o := by simpa using e7
                    have hkl : k + 1 < s.length := by omega
                    have hku : k < u.length := by rw [Hu.out.1]; exact hlt
                    have hbv := hcell k hku
                    rw [Hu.out.2 k hku hkl, Nat.zero_add] at hbv
                    have hst := Hacs.out k hkl
                    have hbd := Hok.out k hlt hkl
                    have hac := Hacc.out k
                    have hb256 : s[k + 1].toNat < 256 := s[k + 1].toNat_lt
                    generalize s[k + 1].toNat = b at hbv hst hbd hb256
                    obtain ⟨a2, ha2⟩ : ∃ a2, a2 = accU s nn (k + 1) := ⟨_, rfl⟩
                    rw [← ha2] at hst
                    have Ha2 := Lib.hid ha2
                    have hac2 : accU s nn k < 256 * 128 ^ 3 := Nat.lt_of_lt_of_le hac (Nat.mul_le_mul_left _ (Nat.pow_le_pow_right (by omega) (by omega)))
                    generalize accU s nn k = a1 at *
                    clear e7 hcell ha2 hac
                    have Hst := Lib.hid hst
                    clear hst
                    go_wp2_with fail
                    go_roundw
                    case rel =>
                      refine ⟨k + 1, by omega, by go_num, ?_, by first | trivial | rfl⟩
                      rw [bits_and63 b hb256, bits_or64 a1 (b % 64) (by omega) (by omega), ← Ha2.out, Hst.out]
                      congr 2
                      omega
                    case measure => simp [RowKit.intOf]; omega
                  · obtain rfl : nn = k := by omega
                    generalize ha : accU s nn nn = acc at *
                    clear ha
                    go_upto_region 17 with fail
                    go_quiet (fail)
                    go_wp2_with fail
                    subst hQl
                    rw [landed_ret]
                    go_ret2
                    have hf := Hfin.out (wr.drewN nq) (below_drewN _ _ _)
                    rw [show ((nn + 1 : Nat) : Int) = (nn : Int) + 1 by omega] at hf
                    exact hf
end Go.Vir


