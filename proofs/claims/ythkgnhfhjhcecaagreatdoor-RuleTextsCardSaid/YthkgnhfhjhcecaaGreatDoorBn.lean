/- Joined texts: Rgb. -/
import Derived.Test.YthkgnhfhjhcecaaGreatDoorBm
import Derived.Test.YthkgnhfhjhcecaaGreatDoorBl
import Derived.Test.YthkgnhfhjhcecaaGreatDoorBf
/- The reference's patterns: viramaref09.Parse. -/
namespace Go.Vir
open Go Go.RowKit Go.Proofs Go.Shelf
attribute [local go_sem] Oper.semAt_some

theorem partsR_len : ∀ (s : List UInt8) (i : Bool), ∀ t ∈ partsR i s, t.length ≤ s.length
  | [], _, t, h => by simp [partsR] at h; subst h; simp
  | b :: r, i, t, h => by
    unfold partsR at h
    split at h
    · rcases List.mem_cons.1 h with rfl | h
      · simp
      · have := partsR_len r _ t h; simp; omega
    · split at h
      · simp at h; subst h; simp
      · rename_i x y hp
        rcases List.mem_cons.1 h with rfl | h
        · have := partsR_len r _ x (by rw [hp]; simp); simp; omega
        · have := partsR_len r _ t (by rw [hp]; exact List.mem_cons_of_mem _ h); simp; omega
theorem partsR_count : ∀ (s : List UInt8) (i : Bool), (partsR i s).length ≤ s.length + 1
  | [], _ => by simp [partsR]
  | b :: r, i => by
    unfold partsR
    split
    · have := partsR_count r i; simp; omega
    · have := partsR_count r (b == 91 || (i && b != 93))
      split
      · simp
      · rename_i x y hp
        rw [hp] at this
        simp at this ⊢; omega
theorem Strs.tail {W : World} {B n c : Nat} {A : Option Addr} {t : List UInt8} {ts : List (List UInt8)} (h : Strs W B A n (t :: ts)) (hc : n ≤ c) : Strs W B (if c = 1 then A else Option.map (fun x => x.add 1) A) (n - 1) ts := by
  have hl := h.len
  simp only [List.length_cons] at hl
  refine ⟨by omega, fun h0 => ?_⟩
  obtain ⟨b, o, rfl, hb, hcl⟩ := h.at_ (by omega)
  rw [if_neg (by omega)]
  refine ⟨b, o + 1, by simp [Addr.add], hb, fun y hy => ?_⟩
  have h1 := hcl (1 + y) (by simp; omega)
  rw [show o + 1 + y = o + (1 + y) by omega, h1]
  simp [show 1 + y = y + 1 by omega]
theorem Strs.set {W : World} {B n b o : Nat} {A : Option Addr} {ss : List (List UInt8)} {u : Value} (h : Strs W B A n ss) (hne : ∀ z o, A = some ⟨z, o, none⟩ → z ≠ b) : Strs (W.setCell ⟨b, o, none⟩ u) B A n ss := by
  refine ⟨h.len, fun h0 => ?_⟩
  obtain ⟨z, y, hA, hz, hc⟩ := h.at_ h0
  refine ⟨z, y, hA, hz, fun j hj => ?_⟩
  exact (World.cell?_setCell_other _ _ _ _ (by intro hq; injection hq with q1; exact absurd q1.symm (hne z y hA))).trans (hc j hj)

set_option maxRecDepth 100000 in
set_option maxHeartbeats 4000000 in
theorem ref_Parse9 (s : List UInt8) (A : Option Addr) (n c : Nat) (ss : List (List UInt8)) (w : World) (hn : n ≤ 1000000) (hnc : n ≤ c) (hz : Strs w w.heap.size A n ss) (hs : ∀ x ∈ ss, x.length ≤ 1000) (hl : s.length ≤ 1000000) :
    Calls Tryz.prog 121 #[.string ⟨s.toArray⟩, .slice A n c] w fun e w' => PatEndF w.heap.size (parsePB s ss) e w' ∧ Below w.heap.size w w' := by
  have hnm := fun W (hW : Below w.heap.size w W) => ref_Names A n c ss W hn hnc ((hz.below hW).more hW.size) (fun x hx => by have := hs x hx; omega)
  have hpa := fun W => ref_parts s W (by omega)
  have hpl := partsR_len s false
  have hpne := partsR_ne false s
  have hpc := partsR_count s false
  obtain ⟨R, hRe⟩ : ∃ R, parsePB s ss = R := ⟨_, rfl⟩
  rw [hRe]
  have HRe := Lib.hid hRe
  have Hnm := Lib.hid hnm
  have Hpa := Lib.hid hpa
  clear hRe hnm hpa
  rcases hN : namesB ss with _ | _
  · have hR : R = ((false, []), 2) := by rw [← HRe.out]; simp [parsePB, hN]
    have HR := Lib.hid hR
    rw [hN] at Hnm
    clear hR hN hpl hpne hpc
    go_enter Tryz.func121, Tryz.ntmps121
    go_wp2_with fail
    refine (Hnm.out _ (by go_grown)).mono ?_
    rintro e w1 ⟨rfl, hb1⟩
    obtain ⟨k0, k1, f0, f1, k2, hb3⟩ := kept2 hb1
    clear hb1
    go_wp2_with fail
    obtain ⟨y0, y1⟩ := set2_cells k2 (.bool false) (.slice none 0 0)
    refine bodyPost_ret (v := .tuple #[.agg #[.bool false, .slice none 0 0], .int .i64 2]) (by simp [results, Tryz.results121, go_sem, y0, y1]) rfl ⟨by rw [HR.out]; exact ⟨_, _, _, rfl, Prs.nil _ _ _, by omega, fun h => absurd h (by omega)⟩, ((hb3).setCell (p := ⟨w.heap.size, 0, none⟩) (Nat.le_refl _) _).setCell (p := ⟨w.heap.size, 1, none⟩) (Nat.le_refl _) _⟩
  · by_cases hse : s = []
    · subst hse
      have hR : R = ((false, []), 0) := by rw [← HRe.out]; simp [parsePB, hN]
      have HR := Lib.hid hR
      rw [hN] at Hnm
      clear hR hN hpl hpne hpc
      go_enter Tryz.func121, Tryz.ntmps121
      go_wp2_with fail
      refine (Hnm.out _ (by go_grown)).mono ?_
      rintro e w1 ⟨rfl, hb1⟩
      obtain ⟨k0, k1, f0, f1, k2, hb3⟩ := kept2 hb1
      have u0 : (w1.alloc (.cells #[.bool false, .slice none 0 0] 96)).heap[w.heap.size]? = some (.cells #[.bool false, .slice none 0 0] 96 (0, 0)) := (heap_old (Array.getElem?_eq_some_iff.1 k2).1).trans k2
      have m0 := cell_blk u0 0
      have m1 := cell_blk u0 1
      have m2 := frozen_blk u0 0
      have m3 := frozen_blk u0 1
      simp only [List.getElem?_toArray, List.getElem?_cons_zero, List.getElem?_cons_succ] at m0 m1
      clear hb1
      go_wp2_with fail
      obtain ⟨y0, y1⟩ := set2_cells u0 (.bool false) (.slice none 0 0)
      refine bodyPost_ret (v := .tuple #[.agg #[.bool false, .slice none 0 0], .int .i64 0]) (by simp [results, Tryz.results121, go_sem, y0, y1]) rfl ⟨by rw [HR.out]; exact ⟨_, _, _, rfl, Prs.nil _ _ _, by omega, fun h => absurd h (by omega)⟩, ((hb3.alloc hb3.size _).setCell (p := ⟨w.heap.size, 0, none⟩) (Nat.le_refl _) _).setCell (p := ⟨w.heap.size, 1, none⟩) (Nat.le_refl _) _⟩
    · have hsemp : s.isEmpty = false := by cases s with | nil => exact absurd rfl hse | cons a b => rfl
      have hpb := parse_R hN hse
      have hitr := fun t => item_R hN t
      rw [HRe.out] at hpb
      rw [hN] at Hnm
      generalize partsR false s = l at *
      obtain ⟨l0, lt, hll⟩ : ∃ l0 lt, l = l0 :: lt := by
        cases l with
        | nil => exact absurd rfl hpne
        | cons a b => exact ⟨a, b, rfl⟩
      subst hll
      simp only [List.head?_cons, List.tail_cons, Option.some.injEq] at hpb
      have Hpb := Lib.hid hpb
      have Hitr := Lib.hid hitr
      have hlt0 : ∀ t ∈ l0 :: lt, t.length ≤ 1000000 := fun t ht => by have := hpl t ht; omega
      have Htl0 := Lib.hid hlt0
      have hlen : (l0 :: lt).length ≤ 1000001 := by omega
      clear hpb hN hpl hpne hpc hitr hlt0 HRe
      by_cases h94 : l0 = [94]
      · subst h94
        have hpb2 : R = match itemsB ss lt [] with
          | some xs => ((true, xs), 0)
          | none => ((false, []), 80) := by
          have hq := Hpb.out
          rcases hi : itemsB ss lt [] with _ | xs <;> simpa [hi] using hq
        have Hpb2 := Lib.hid hpb2
        clear hpb2 Hpb
        go_enter Tryz.func121, Tryz.ntmps121
        go_wp2_with fail
        refine (Hnm.out _ (by go_grown)).mono ?_
        rintro e w1 ⟨rfl, hb1⟩
        obtain ⟨k0, k1, f0, f1, k2, hb3⟩ := kept2 hb1
        clear hb1
        go_wp2_with fail
        refine (Hpa.out _).mono ?_
        rintro e w2 ⟨A2, n2, d2, rfl, hnd, hS2, hb4⟩
        have hB1 : w.heap.size < w1.heap.size := (Array.getElem?_eq_some_iff.1 k2).1
        have hb7 : Below w.heap.size w w2 := (hb3.alloc hb3.size _).trans (hb4.mono (by simp; omega))
        have r0 : w2.heap[w.heap.size]? = some (.cells #[.bool false, .slice none 0 0] 96 (0, 0)) := (hb4.block w.heap.size (by simp; omega)).trans ((heap_old hB1).trans k2)
        have r1 : w2.heap[w1.heap.size]? = some (.cells #[.bool false, .slice none 0 0] 96 (0, 0)) := (hb4.block w1.heap.size (by simp)).trans (heap_new rfl)
        clear k0 k1 f0 f1 k2 hb3 hb4
        generalize w1.heap.size = B1 at *
        clear w1
        have hn2 : 0 < n2 := by have := hS2.len; simp at this; omega
        obtain ⟨zb, zo, rfl, hzb, hzc⟩ := hS2.at_ hn2
        have z0 := hzc 0 (by simp)
        simp only [List.getElem_cons_zero, Nat.add_zero] at z0
        clear hzc
        have k10 := cell_blk r1 0
        have k12 := frozen_blk r1 0
        simp only [List.getElem?_toArray, List.getElem?_cons_zero] at k10
        have hzne : zb ≠ B1 := by
          rintro rfl
          have := cell_blk r1 zo
          rw [z0] at this
          match zo, this with
          | 0, h => simp at h
          | 1, h => simp at h
          | q + 2, h => simp at h
        have hd1 : ¬ n2 < 1 := by omega
        have hd2 : (1 : Int) ≤ (n2 : Int) := by omega
        have hd3 : (1 : Int) ≤ (d2 : Int) := by omega
        have hST0 := hS2.tail hnd
        generalize hW9 : w2.setCell ⟨B1, 0, none⟩ (.bool true) = W9
        have hST1 : Strs W9 W9.heap.size (if d2 = 1 then some ⟨zb, zo, none⟩ else Option.map (fun x : Addr => x.add 1) (some ⟨zb, zo, none⟩)) (n2 - 1) lt := by
          rw [← hW9]
          refine (hST0.set ?_).more (by rw [World.size_setCell]; exact Nat.le_refl _)
          intro z o h
          split at h <;> (simp [Addr.add] at h; omega)
        have hb9 : Below w.heap.size w W9 := by rw [← hW9]; exact hb7.setCell (p := ⟨B1, 0, none⟩) (Nat.le_of_lt hB1) _
        have r9 : W9.heap[w.heap.size]? = some (.cells #[.bool false, .slice none 0 0] 96 (0, 0)) := by rw [← hW9]; exact (Below.heap_setCell _ _ _ _ (Nat.ne_of_lt hB1)).trans r0
        have r8 : W9.heap[B1]? = some (.cells #[.bool true, .slice none 0 0] 96 (0, 0)) := by rw [← hW9]; exact setCell_blk r1 0 (.bool true)
        have HW9 := Lib.hid hW9
        have Htl : Hid (∀ t ∈ lt, t.length ≤ 1000000) := Lib.hid fun t ht => Htl0.out t (List.mem_cons_of_mem _ ht)
        clear hW9 hST0 hzne hS2 Htl0
        have hnq : n2 ≤ 1000001 := by have := hST1.len; simp at hlen; omega
        clear hlen
        rcases Nat.lt_or_ge d2 2 with hd | hd
        · obtain rfl : d2 = 1 := by omega
          obtain rfl : n2 = 1 := by omega
          simp only [if_pos, Nat.sub_self] at hST1
          clear hd hd1 hd2 hd3
          go_upto_region 10 with fail
          rw [HW9.out]
          clear HW9 hb7 r0 r1 k10 k12 z0 hzb
          have hb7 := hb9
          have r0 := r9
          have r1 := r8
          have hST := hST1
          clear hb9 r9 r8 hST1
          generalize (some ⟨zb, zo, none⟩ : Option Addr) = AQ at *
          generalize lt = lq at *
          go_wp2_with fail
          obtain ⟨i0, hi0, hz0, hz1, hz2⟩ := info_parts item_info
          have hs4 := hb7.size
          have hs4' := (Array.getElem?_eq_some_iff.1 r1).1
          go_loopw [8] (fun i wr => ∃ (k : Nat) (v : Value) (acc : List (Int × Int)), k ≤ 0 ∧ i = .int .i64 (k : Int) ∧ Below w.heap.size w wr ∧ W9.heap.size ≤ wr.heap.size ∧ wr.heap[w.heap.size]? = some (.cells #[.bool false, .slice none 0 0] 96 (0, 0)) ∧
              wr.heap[B1]? = some (.cells #[.bool true, v] 96 (0, 0)) ∧ Strs wr W9.heap.size AQ 0 lq ∧ wr.ownsRow W9.heap.size 167 2 v acc.length (itemVs acc) ∧ acc.length ≤ 10 ∧ itemsB ss lq [] = itemsB ss (lq.drop k) acc) (fun i _ => 0 - (RowKit.intOf i).toNat)
          case atStart => exact ⟨0, _, [], Nat.zero_le _, rfl, hb7, Nat.le_refl _, r0, r1, hST, World.ownsRow_nil _ _ _ _, by simp, rfl⟩
          case round =>
            clear hb7 r0 r1 hST
            obtain ⟨k, v, acc, hk, rfl, hbr, hsr, q0, q1, hSr, hown, hacc, hit⟩ := hrel
            obtain ⟨A', n', c', rfl, hn', hPr⟩ := prs_own hown
            have Hit := Lib.hid hit
            have Hn' := Lib.hid hn'
            have hn'10 : n' ≤ 10 := by omega
            clear hit hn' hPr
            rcases Nat.lt_or_ge k 0 with hlt | hge
            · exact absurd hlt (Nat.not_lt_zero _)
            · have hR : R = ((true, acc), 0) := by
                rw [Hpb2.out, Hit.out, List.drop_eq_nil_of_le (by have := hSr.len; omega), itemsB]
              have HR := Lib.hid hR
              clear hR
              have k00 := cell_blk q0 0
              have k01 := cell_blk q0 1
              have k02 := frozen_blk q0 0
              have k03 := frozen_blk q0 1
              simp only [List.getElem?_toArray, List.getElem?_cons_zero, List.getElem?_cons_succ] at k00 k01
              have k10 := cell_blk q1 0
              have k11 := cell_blk q1 1
              simp only [List.getElem?_toArray, List.getElem?_cons_zero, List.getElem?_cons_succ] at k10 k11
              go_wp2_with fail
              obtain ⟨z0, z1⟩ := set2_cells q0 (.bool true) (.slice A' n' c')
              have hs9 : Below w.heap.size w ((wr.setCell ⟨w.heap.size, 0, none⟩ (.bool true)).setCell ⟨w.heap.size, 1, none⟩ (.slice A' n' c')) := (hbr.setCell (p := ⟨w.heap.size, 0, none⟩) (Nat.le_refl _) _).setCell (p := ⟨w.heap.size, 1, none⟩) (Nat.le_refl _) _
              have hown9 : ((wr.setCell ⟨w.heap.size, 0, none⟩ (.bool true)).setCell ⟨w.heap.size, 1, none⟩ (.slice A' n' c')).ownsRow W9.heap.size 167 2 (.slice A' n' c') acc.length (itemVs acc) := by
                have h1 := hown.kept (grownBy_setCell2 wr w.heap.size 0 (.bool true)) (.inr (blk_not_row q0 (by decide) hown).symm)
                have h2 := setCell_blk q0 0 (.bool true)
                exact h1.kept (grownBy_setCell2 _ w.heap.size 1 (.slice A' n' c')) (.inr (blk_not_row h2 (by decide) h1).symm)
              obtain ⟨A9, n9, c9, he9, _, hP9⟩ := prs_own hown9
              injection he9 with e1 e2 e3
              subst e1 e2 e3
              refine bodyPost_ret (v := .tuple #[.agg #[.bool true, .slice A' n' c'], .int .i64 0]) (by simp [results, Tryz.results121, go_sem, z0, z1]) rfl ⟨by rw [HR.out]; exact ⟨_, _, _, rfl, hP9, hn'10, own_fresh hown9 hs4⟩, hs9⟩
        · obtain ⟨r, rfl⟩ : ∃ r, d2 = r + 2 := ⟨d2 - 2, by omega⟩
          have hd4 : ¬ r + 2 = 1 := by omega
          simp only [if_neg hd4, Option.map_some, Addr.add, if_neg Nat.one_ne_zero] at hST1
          obtain ⟨nq, rfl⟩ : ∃ nq, n2 = nq + 1 := ⟨n2 - 1, by omega⟩
          rw [Nat.add_sub_cancel] at hST1
          clear hd hd1 hd2 hd3
          have hd1 : ¬ nq + 1 < 1 := by omega
          go_upto_region 10 with fail
          rw [HW9.out]
          clear HW9 hb7 r0 r1 k10 k12 z0 hzb
          have hb7 := hb9
          have r0 := r9
          have r1 := r8
          have hST := hST1
          clear hb9 r9 r8 hST1
          generalize (some ⟨zb, zo + 1, none⟩ : Option Addr) = AQ at *
          generalize lt = lq at *
          go_wp2_with fail
          obtain ⟨i0, hi0, hz0, hz1, hz2⟩ := info_parts item_info
          have hs4 := hb7.size
          have hs4' := (Array.getElem?_eq_some_iff.1 r1).1
          go_loopw [8] (fun i wr => ∃ (k : Nat) (v : Value) (acc : List (Int × Int)), k ≤ nq ∧ i = .int .i64 (k : Int) ∧ Below w.heap.size w wr ∧ W9.heap.size ≤ wr.heap.size ∧ wr.heap[w.heap.size]? = some (.cells #[.bool false, .slice none 0 0] 96 (0, 0)) ∧
              wr.heap[B1]? = some (.cells #[.bool true, v] 96 (0, 0)) ∧ Strs wr W9.heap.size AQ nq lq ∧ wr.ownsRow W9.heap.size 167 2 v acc.length (itemVs acc) ∧ acc.length ≤ 10 ∧ itemsB ss lq [] = itemsB ss (lq.drop k) acc) (fun i _ => nq - (RowKit.intOf i).toNat)
          case atStart => exact ⟨0, _, [], Nat.zero_le _, rfl, hb7, Nat.le_refl _, r0, r1, hST, World.ownsRow_nil _ _ _ _, by simp, rfl⟩
          case round =>
            clear hb7 r0 r1 hST
            obtain ⟨k, v, acc, hk, rfl, hbr, hsr, q0, q1, hSr, hown, hacc, hit⟩ := hrel
            obtain ⟨A', n', c', rfl, hn', hPr⟩ := prs_own hown
            have Hit := Lib.hid hit
            have Hn' := Lib.hid hn'
            have hn'10 : n' ≤ 10 := by omega
            clear hit hn' hPr
            rcases Nat.lt_or_ge k nq with hlt | hge
            · obtain ⟨yb, yo, rfl, hyb, hyc⟩ := hSr.at_ (by omega)
              have hkl : k < lq.length := by have := hSr.len; omega
              have y0 := hyc k hkl
              have Hdrop := Lib.hid (List.drop_eq_getElem_cons hkl)
              have htl := Htl.out _ (List.getElem_mem hkl)
              generalize lq[k] = t at y0 Hdrop htl
              have hzne : yb ≠ B1 := by
                rintro rfl
                have := cell_blk q1 (yo + k)
                rw [y0] at this
                match yo + k, this with
                | 0, h => simp at h
                | 1, h => simp at h
                | q + 2, h => simp at h
              have hitem := ref_item t A n c ss wr hn hnc ((hz.below hbr).more hbr.size) hs (by omega)
              have hio := Hitr.out t
              generalize cpB (starR t 2).1 ss = cp at *
              obtain ⟨x0, y⟩ := cp
              obtain ⟨x1, hx1⟩ : ∃ x1 : Int, ((starR t 2).2 : Int) = x1 := ⟨_, rfl⟩
              rw [hx1] at hio hitem
              simp only at hio hitem
              have Hitem := Lib.hid hitem
              clear hyc hx1 hitem
              rcases hy : (y == 0) with _ | _
              · have hyz : ¬ y = 0 := by simpa using hy
                rw [if_neg hyz] at hio
                have hR : R = ((false, []), 80) := by rw [Hpb2.out, Hit.out, Hdrop.out, itemsB, hio]
                have HR := Lib.hid hR
                rw [hy] at Hitem
                clear hR hio hy hyz
                go_wp2_with fail
                refine Hitem.out.mono ?_
                rintro e w5 ⟨rfl, hb8⟩
                have hb9 : Below w.heap.size w w5 := hbr.trans (hb8.mono hbr.size)
                have p0 := (hb8.block _ (Array.getElem?_eq_some_iff.1 q0).1).trans q0
                have u0 : (w5.alloc (.cells #[.int .i64 x0, .int .i64 x1] 167)).heap[w.heap.size]? = some (.cells #[.bool false, .slice none 0 0] 96 (0, 0)) := (heap_old (Array.getElem?_eq_some_iff.1 p0).1).trans p0
                have k00 := cell_blk u0 0
                have k01 := cell_blk u0 1
                have k02 := frozen_blk u0 0
                have k03 := frozen_blk u0 1
                simp only [List.getElem?_toArray, List.getElem?_cons_zero, List.getElem?_cons_succ] at k00 k01
                clear y0 q0 q1 hSr hown
                go_wp2_with fail
                obtain ⟨y0, y1⟩ := set2_cells u0 (.bool false) (.slice none 0 0)
                refine bodyPost_ret (v := .tuple #[.agg #[.bool false, .slice none 0 0], .int .i64 80]) (by simp [results, Tryz.results121, go_sem, y0, y1]) rfl ⟨by rw [HR.out]; exact ⟨_, _, _, rfl, Prs.nil _ _ _, by omega, fun h => absurd h (by omega)⟩, ((hb9.alloc hb9.size _).setCell (p := ⟨w.heap.size, 0, none⟩) (Nat.le_refl _) _).setCell (p := ⟨w.heap.size, 1, none⟩) (Nat.le_refl _) _⟩
              · have hyz : y = 0 := by simpa using hy
                rw [if_pos hyz] at hio
                rw [hy] at Hitem
                clear hy hyz
                go_wp2_with fail
                refine Hitem.out.mono ?_
                rintro e w5 ⟨rfl, hb8⟩
                have hb9 : Below w.heap.size w w5 := hbr.trans (hb8.mono hbr.size)
                have p0 := (hb8.block _ (Array.getElem?_eq_some_iff.1 q0).1).trans q0
                have p1 := (hb8.block _ (Array.getElem?_eq_some_iff.1 q1).1).trans q1
                have hown5 := ownsRow_below hown hb8
                have hS5 := hSr.below (hb8.mono hsr)
                have hs5 := hb8.size
                have hl5 := (Array.getElem?_eq_some_iff.1 p1).1
                have u1 : (w5.alloc (.cells #[.int .i64 x0, .int .i64 x1] 167)).heap[B1]? = some (.cells #[.bool true, .slice A' n' c'] 96 (0, 0)) := (heap_old hl5).trans p1
                have u0 : (w5.alloc (.cells #[.int .i64 x0, .int .i64 x1] 167)).heap[w.heap.size]? = some (.cells #[.bool false, .slice none 0 0] 96 (0, 0)) := (heap_old (Array.getElem?_eq_some_iff.1 p0).1).trans p0
                have k11 := cell_blk u1 1
                simp only [List.getElem?_toArray, List.getElem?_cons_zero, List.getElem?_cons_succ] at k11
                have hbA : Below w.heap.size w (w5.alloc (.cells #[.int .i64 x0, .int .i64 x1] 167)) := hb9.alloc hb9.size _
                clear y0 hown q0 q1 hSr p1
                by_cases h10 : acc.length = 10
                · have hR : R = ((false, []), 80) := by
                    rw [Hpb2.out, Hit.out, Hdrop.out, itemsB, hio]
                    simp [h10]
                  have HR := Lib.hid hR
                  have e10 : ((n' : Int) == 10) = true := by
                    have := Hn'.out
                    rw [beq_iff_eq]; omega
                  clear hR hio h10
                  have k00 := cell_blk u0 0
                  have k01 := cell_blk u0 1
                  have k02 := frozen_blk u0 0
                  have k03 := frozen_blk u0 1
                  simp only [List.getElem?_toArray, List.getElem?_cons_zero, List.getElem?_cons_succ] at k00 k01
                  go_wp2_with fail
                  obtain ⟨y0, y1⟩ := set2_cells u0 (.bool false) (.slice none 0 0)
                  refine bodyPost_ret (v := .tuple #[.agg #[.bool false, .slice none 0 0], .int .i64 80]) (by simp [results, Tryz.results121, go_sem, y0, y1]) rfl ⟨by rw [HR.out]; exact ⟨_, _, _, rfl, Prs.nil _ _ _, by omega, fun h => absurd h (by omega)⟩, ((hbA).setCell (p := ⟨w.heap.size, 0, none⟩) (Nat.le_refl _) _).setCell (p := ⟨w.heap.size, 1, none⟩) (Nat.le_refl _) _⟩
                · have hit2 : itemsB ss lq [] = itemsB ss (lq.drop (k + 1)) (acc ++ [(x0, x1)]) := by
                    rw [Hit.out, Hdrop.out, itemsB, hio]
                    simp [h10]
                  have Hit2 := Lib.hid hit2
                  have e10 : ((n' : Int) == 10) = false := by
                    have := Hn'.out
                    rw [beq_eq_false_iff_ne]; omega
                  have hacc9 : acc.length < 10 := by omega
                  have hownA : (w5.alloc (.cells #[.int .i64 x0, .int .i64 x1] 167)).ownsRow W9.heap.size 167 2 (.slice A' n' c') acc.length (itemVs acc) := hown5.alloc _
                  have hcA : ∀ (j : Nat) (u : Value), [Value.int .i64 x0, .int .i64 x1][j]? = some u → ((w5.alloc (.cells #[.int .i64 x0, .int .i64 x1] 167)).alloc (.cells #[.int .i64 x0, .int .i64 x1] 167)).cell? ((⟨w5.heap.size + 1, 0, none⟩ : Addr).add j) = some u := by
                    have := cell_two_at (w5.alloc (.cells #[.int .i64 x0, .int .i64 x1] 167)) (.int .i64 x0) (.int .i64 x1) 167
                    rw [World.size_alloc] at this
                    exact this
                  have Hb4 := Lib.hid (show W9.heap.size ≤ (w5.alloc (.cells #[.int .i64 x0, .int .i64 x1] 167)).heap.size by simp; omega)
                  clear hit2 hio h10
                  go_wp2_with (at_builtin; refine wpList_append_at _ rfl _ _ 94 rfl W9.heap.size 167 i0 (.agg #[.int .i64 0, .int .i64 0]) 2 16 Tryz.underlying94 hi0 hz0 hz1 hz2 rfl (by decide) (.slice A' n' c') acc.length (itemVs acc) rfl (hownA.alloc _) ⟨w5.heap.size + 1, 0, none⟩ 1 1 [.int .i64 x0, .int .i64 x1] rfl rfl hcA (by simp [Value.oneCell']) (by simp only [maxLen]; omega) (by omega) (by simp; omega) ?_; intro v' w8 hown8 hgrow hat; obtain ⟨g8, cap8, rfl⟩ := ownsRow_succ hown8; have hfa := field_appended2 (n₀ := w.heap.size) (j := 1) u1 (by decide) hownA Hb4.out hs4 (Nat.le_of_lt hB1) hown8 hgrow; obtain ⟨f1, f2, f3, f4, f5⟩ := hfa; have c1 := cell_blk f1 1; have c2 := frozen_blk f1 1)
                  go_roundw
                  case rel =>
                    refine ⟨k + 1, _, acc ++ [(x0, x1)], by omega, by go_num, hbA.trans f4, ?_, ?_, f2, ?_, ?_, by simp; omega, Hit2.out⟩
                    · have := hown8.1; have := hgrow.size; simp at this ⊢; omega
                    · exact (f5 _ (by omega) (by omega)).trans u0
                    · refine ⟨hS5.len, fun h0 => ?_⟩
                      obtain ⟨vb, vo, hva, hvb, hvc⟩ := hS5.at_ h0
                      refine ⟨vb, vo, hva, hvb, fun j hj => ?_⟩
                      have hvz : vb = yb := by
                        have := hva; simp at this; exact this.1.symm
                      subst hvz
                      rw [World.cell?_of_block (a := ⟨vb, vo + j, none⟩) (f5 vb hvb hzne)]
                      exact (World.cell?_alloc_lt _ _ _ (by show vb < _; omega)).trans (hvc j hj)
                    · rw [itemVs_app, List.length_append]
                      exact f3
                  case measure => simp [RowKit.intOf]; omega
            · have hR : R = ((true, acc), 0) := by
                rw [Hpb2.out, Hit.out, List.drop_eq_nil_of_le (by have := hSr.len; omega), itemsB]
              have HR := Lib.hid hR
              clear hR
              have k00 := cell_blk q0 0
              have k01 := cell_blk q0 1
              have k02 := frozen_blk q0 0
              have k03 := frozen_blk q0 1
              simp only [List.getElem?_toArray, List.getElem?_cons_zero, List.getElem?_cons_succ] at k00 k01
              have k10 := cell_blk q1 0
              have k11 := cell_blk q1 1
              simp only [List.getElem?_toArray, List.getElem?_cons_zero, List.getElem?_cons_succ] at k10 k11
              go_wp2_with fail
              obtain ⟨z0, z1⟩ := set2_cells q0 (.bool true) (.slice A' n' c')
              have hs9 : Below w.heap.size w ((wr.setCell ⟨w.heap.size, 0, none⟩ (.bool true)).setCell ⟨w.heap.size, 1, none⟩ (.slice A' n' c')) := (hbr.setCell (p := ⟨w.heap.size, 0, none⟩) (Nat.le_refl _) _).setCell (p := ⟨w.heap.size, 1, none⟩) (Nat.le_refl _) _
              have hown9 : ((wr.setCell ⟨w.heap.size, 0, none⟩ (.bool true)).setCell ⟨w.heap.size, 1, none⟩ (.slice A' n' c')).ownsRow W9.heap.size 167 2 (.slice A' n' c') acc.length (itemVs acc) := by
                have h1 := hown.kept (grownBy_setCell2 wr w.heap.size 0 (.bool true)) (.inr (blk_not_row q0 (by decide) hown).symm)
                have h2 := setCell_blk q0 0 (.bool true)
                exact h1.kept (grownBy_setCell2 _ w.heap.size 1 (.slice A' n' c')) (.inr (blk_not_row h2 (by decide) h1).symm)
              obtain ⟨A9, n9, c9, he9, _, hP9⟩ := prs_own hown9
              injection he9 with e1 e2 e3
              subst e1 e2 e3
              refine bodyPost_ret (v := .tuple #[.agg #[.bool true, .slice A' n' c'], .int .i64 0]) (by simp [results, Tryz.results121, go_sem, z0, z1]) rfl ⟨by rw [HR.out]; exact ⟨_, _, _, rfl, hP9, hn'10, own_fresh hown9 hs4⟩, hs9⟩

      · have e94 : (l0 == [94]) = false := by simpa using h94
        have hpb2 : R = match itemsB ss (l0 :: lt) [] with
          | some xs => ((false, xs), 0)
          | none => ((false, []), 80) := by
          have hq := Hpb.out
          rcases hi : itemsB ss (l0 :: lt) [] with _ | xs <;> simpa [h94, hi] using hq
        have Hpb2 := Lib.hid hpb2
        clear hpb2 Hpb h94
        go_enter Tryz.func121, Tryz.ntmps121
        go_wp2_with fail
        refine (Hnm.out _ (by go_grown)).mono ?_
        rintro e w1 ⟨rfl, hb1⟩
        obtain ⟨k0, k1, f0, f1, k2, hb3⟩ := kept2 hb1
        clear hb1
        go_wp2_with fail
        refine (Hpa.out _).mono ?_
        rintro e w2 ⟨A2, n2, d2, rfl, hnd, hS2, hb4⟩
        have hB1 : w.heap.size < w1.heap.size := (Array.getElem?_eq_some_iff.1 k2).1
        have hb7 : Below w.heap.size w w2 := (hb3.alloc hb3.size _).trans (hb4.mono (by simp; omega))
        have r0 : w2.heap[w.heap.size]? = some (.cells #[.bool false, .slice none 0 0] 96 (0, 0)) := (hb4.block w.heap.size (by simp; omega)).trans ((heap_old hB1).trans k2)
        have r1 : w2.heap[w1.heap.size]? = some (.cells #[.bool false, .slice none 0 0] 96 (0, 0)) := (hb4.block w1.heap.size (by simp)).trans (heap_new rfl)
        clear k0 k1 f0 f1 k2 hb3 hb4
        generalize w1.heap.size = B1 at *
        clear w1
        have hn2 : 0 < n2 := by have := hS2.len; simp at this; omega
        obtain ⟨zb, zo, rfl, hzb, hzc⟩ := hS2.at_ hn2
        have z0 := hzc 0 (by simp)
        simp only [List.getElem_cons_zero, Nat.add_zero] at z0
        clear hzc
        generalize hW9 : w2 = W9 at *
        have Htl := Htl0
        have hST := hS2
        clear hS2 Htl0 hW9
        go_wp2_with fail
        clear z0 hzb
        generalize (some ⟨zb, zo, none⟩ : Option Addr) = AQ at *
        have hnq : n2 ≤ 1000001 := by have := hST.len; omega
        clear hlen
        generalize l0 :: lt = lq at *
        generalize n2 = nq at *
        obtain ⟨i0, hi0, hz0, hz1, hz2⟩ := info_parts item_info
        have hs4 := hb7.size
        have hs4' := (Array.getElem?_eq_some_iff.1 r1).1
        go_loopw [8] (fun i wr => ∃ (k : Nat) (v : Value) (acc : List (Int × Int)), k ≤ nq ∧ i = .int .i64 (k : Int) ∧ Below w.heap.size w wr ∧ W9.heap.size ≤ wr.heap.size ∧ wr.heap[w.heap.size]? = some (.cells #[.bool false, .slice none 0 0] 96 (0, 0)) ∧
            wr.heap[B1]? = some (.cells #[.bool false, v] 96 (0, 0)) ∧ Strs wr W9.heap.size AQ nq lq ∧ wr.ownsRow W9.heap.size 167 2 v acc.length (itemVs acc) ∧ acc.length ≤ 10 ∧ itemsB ss lq [] = itemsB ss (lq.drop k) acc) (fun i _ => nq - (RowKit.intOf i).toNat)
        case atStart => exact ⟨0, _, [], Nat.zero_le _, rfl, hb7, Nat.le_refl _, r0, r1, hST, World.ownsRow_nil _ _ _ _, by simp, rfl⟩
        case round =>
          clear hb7 r0 r1 hST
          obtain ⟨k, v, acc, hk, rfl, hbr, hsr, q0, q1, hSr, hown, hacc, hit⟩ := hrel
          obtain ⟨A', n', c', rfl, hn', hPr⟩ := prs_own hown
          have Hit := Lib.hid hit
          have Hn' := Lib.hid hn'
          have hn'10 : n' ≤ 10 := by omega
          clear hit hn' hPr
          rcases Nat.lt_or_ge k nq with hlt | hge
          · obtain ⟨yb, yo, rfl, hyb, hyc⟩ := hSr.at_ (by omega)
            have hkl : k < lq.length := by have := hSr.len; omega
            have y0 := hyc k hkl
            have Hdrop := Lib.hid (List.drop_eq_getElem_cons hkl)
            have htl := Htl.out _ (List.getElem_mem hkl)
            generalize lq[k] = t at y0 Hdrop htl
            have hzne : yb ≠ B1 := by
              rintro rfl
              have := cell_blk q1 (yo + k)
              rw [y0] at this
              match yo + k, this with
              | 0, h => simp at h
              | 1, h => simp at h
              | q + 2, h => simp at h
            have hitem := ref_item t A n c ss wr hn hnc ((hz.below hbr).more hbr.size) hs (by omega)
            have hio := Hitr.out t
            generalize cpB (starR t 2).1 ss = cp at *
            obtain ⟨x0, y⟩ := cp
            obtain ⟨x1, hx1⟩ : ∃ x1 : Int, ((starR t 2).2 : Int) = x1 := ⟨_, rfl⟩
            rw [hx1] at hio hitem
            simp only at hio hitem
            have Hitem := Lib.hid hitem
            clear hyc hx1 hitem
            rcases hy : (y == 0) with _ | _
            · have hyz : ¬ y = 0 := by simpa using hy
              rw [if_neg hyz] at hio
              have hR : R = ((false, []), 80) := by rw [Hpb2.out, Hit.out, Hdrop.out, itemsB, hio]
              have HR := Lib.hid hR
              rw [hy] at Hitem
              clear hR hio hy hyz
              go_wp2_with fail
              refine Hitem.out.mono ?_
              rintro e w5 ⟨rfl, hb8⟩
              have hb9 : Below w.heap.size w w5 := hbr.trans (hb8.mono hbr.size)
              have p0 := (hb8.block _ (Array.getElem?_eq_some_iff.1 q0).1).trans q0
              have u0 : (w5.alloc (.cells #[.int .i64 x0, .int .i64 x1] 167)).heap[w.heap.size]? = some (.cells #[.bool false, .slice none 0 0] 96 (0, 0)) := (heap_old (Array.getElem?_eq_some_iff.1 p0).1).trans p0
              have k00 := cell_blk u0 0
              have k01 := cell_blk u0 1
              have k02 := frozen_blk u0 0
              have k03 := frozen_blk u0 1
              simp only [List.getElem?_toArray, List.getElem?_cons_zero, List.getElem?_cons_succ] at k00 k01
              clear y0 q0 q1 hSr hown
              go_wp2_with fail
              obtain ⟨y0, y1⟩ := set2_cells u0 (.bool false) (.slice none 0 0)
              refine bodyPost_ret (v := .tuple #[.agg #[.bool false, .slice none 0 0], .int .i64 80]) (by simp [results, Tryz.results121, go_sem, y0, y1]) rfl ⟨by rw [HR.out]; exact ⟨_, _, _, rfl, Prs.nil _ _ _, by omega, fun h => absurd h (by omega)⟩, ((hb9.alloc hb9.size _).setCell (p := ⟨w.heap.size, 0, none⟩) (Nat.le_refl _) _).setCell (p := ⟨w.heap.size, 1, none⟩) (Nat.le_refl _) _⟩
            · have hyz : y = 0 := by simpa using hy
              rw [if_pos hyz] at hio
              rw [hy] at Hitem
              clear hy hyz
              go_wp2_with fail
              refine Hitem.out.mono ?_
              rintro e w5 ⟨rfl, hb8⟩
              have hb9 : Below w.heap.size w w5 := hbr.trans (hb8.mono hbr.size)
              have p0 := (hb8.block _ (Array.getElem?_eq_some_iff.1 q0).1).trans q0
              have p1 := (hb8.block _ (Array.getElem?_eq_some_iff.1 q1).1).trans q1
              have hown5 := ownsRow_below hown hb8
              have hS5 := hSr.below (hb8.mono hsr)
              have hs5 := hb8.size
              have hl5 := (Array.getElem?_eq_some_iff.1 p1).1
              have u1 : (w5.alloc (.cells #[.int .i64 x0, .int .i64 x1] 167)).heap[B1]? = some (.cells #[.bool false, .slice A' n' c'] 96 (0, 0)) := (heap_old hl5).trans p1
              have u0 : (w5.alloc (.cells #[.int .i64 x0, .int .i64 x1] 167)).heap[w.heap.size]? = some (.cells #[.bool false, .slice none 0 0] 96 (0, 0)) := (heap_old (Array.getElem?_eq_some_iff.1 p0).1).trans p0
              have k11 := cell_blk u1 1
              simp only [List.getElem?_toArray, List.getElem?_cons_zero, List.getElem?_cons_succ] at k11
              have hbA : Below w.heap.size w (w5.alloc (.cells #[.int .i64 x0, .int .i64 x1] 167)) := hb9.alloc hb9.size _
              clear y0 hown q0 q1 hSr p1
              by_cases h10 : acc.length = 10
              · have hR : R = ((false, []), 80) := by
                  rw [Hpb2.out, Hit.out, Hdrop.out, itemsB, hio]
                  simp [h10]
                have HR := Lib.hid hR
                have e10 : ((n' : Int) == 10) = true := by
                  have := Hn'.out
                  rw [beq_iff_eq]; omega
                clear hR hio h10
                have k00 := cell_blk u0 0
                have k01 := cell_blk u0 1
                have k02 := frozen_blk u0 0
                have k03 := frozen_blk u0 1
                simp only [List.getElem?_toArray, List.getElem?_cons_zero, List.getElem?_cons_succ] at k00 k01
                go_wp2_with fail
                obtain ⟨y0, y1⟩ := set2_cells u0 (.bool false) (.slice none 0 0)
                refine bodyPost_ret (v := .tuple #[.agg #[.bool false, .slice none 0 0], .int .i64 80]) (by simp [results, Tryz.results121, go_sem, y0, y1]) rfl ⟨by rw [HR.out]; exact ⟨_, _, _, rfl, Prs.nil _ _ _, by omega, fun h => absurd h (by omega)⟩, ((hbA).setCell (p := ⟨w.heap.size, 0, none⟩) (Nat.le_refl _) _).setCell (p := ⟨w.heap.size, 1, none⟩) (Nat.le_refl _) _⟩
              · have hit2 : itemsB ss lq [] = itemsB ss (lq.drop (k + 1)) (acc ++ [(x0, x1)]) := by
                  rw [Hit.out, Hdrop.out, itemsB, hio]
                  simp [h10]
                have Hit2 := Lib.hid hit2
                have e10 : ((n' : Int) == 10) = false := by
                  have := Hn'.out
                  rw [beq_eq_false_iff_ne]; omega
                have hacc9 : acc.length < 10 := by omega
                have hownA : (w5.alloc (.cells #[.int .i64 x0, .int .i64 x1] 167)).ownsRow W9.heap.size 167 2 (.slice A' n' c') acc.length (itemVs acc) := hown5.alloc _
                have hcA : ∀ (j : Nat) (u : Value), [Value.int .i64 x0, .int .i64 x1][j]? = some u → ((w5.alloc (.cells #[.int .i64 x0, .int .i64 x1] 167)).alloc (.cells #[.int .i64 x0, .int .i64 x1] 167)).cell? ((⟨w5.heap.size + 1, 0, none⟩ : Addr).add j) = some u := by
                  have := cell_two_at (w5.alloc (.cells #[.int .i64 x0, .int .i64 x1] 167)) (.int .i64 x0) (.int .i64 x1) 167
                  rw [World.size_alloc] at this
                  exact this
                have Hb4 := Lib.hid (show W9.heap.size ≤ (w5.alloc (.cells #[.int .i64 x0, .int .i64 x1] 167)).heap.size by simp; omega)
                clear hit2 hio h10
                go_wp2_with (at_builtin; refine wpList_append_at _ rfl _ _ 94 rfl W9.heap.size 167 i0 (.agg #[.int .i64 0, .int .i64 0]) 2 16 Tryz.underlying94 hi0 hz0 hz1 hz2 rfl (by decide) (.slice A' n' c') acc.length (itemVs acc) rfl (hownA.alloc _) ⟨w5.heap.size + 1, 0, none⟩ 1 1 [.int .i64 x0, .int .i64 x1] rfl rfl hcA (by simp [Value.oneCell']) (by simp only [maxLen]; omega) (by omega) (by simp; omega) ?_; intro v' w8 hown8 hgrow hat; obtain ⟨g8, cap8, rfl⟩ := ownsRow_succ hown8; have hfa := field_appended2 (n₀ := w.heap.size) (j := 1) u1 (by decide) hownA Hb4.out hs4 (Nat.le_of_lt hB1) hown8 hgrow; obtain ⟨f1, f2, f3, f4, f5⟩ := hfa; have c1 := cell_blk f1 1; have c2 := frozen_blk f1 1)
                go_roundw
                case rel =>
                  refine ⟨k + 1, _, acc ++ [(x0, x1)], by omega, by go_num, hbA.trans f4, ?_, ?_, f2, ?_, ?_, by simp; omega, Hit2.out⟩
                  · have := hown8.1; have := hgrow.size; simp at this ⊢; omega
                  · exact (f5 _ (by omega) (by omega)).trans u0
                  · refine ⟨hS5.len, fun h0 => ?_⟩
                    obtain ⟨vb, vo, hva, hvb, hvc⟩ := hS5.at_ h0
                    refine ⟨vb, vo, hva, hvb, fun j hj => ?_⟩
                    have hvz : vb = yb := by
                      have := hva; simp at this; exact this.1.symm
                    subst hvz
                    rw [World.cell?_of_block (a := ⟨vb, vo + j, none⟩) (f5 vb hvb hzne)]
                    exact (World.cell?_alloc_lt _ _ _ (by show vb < _; omega)).trans (hvc j hj)
                  · rw [itemVs_app, List.length_append]
                    exact f3
                case measure => simp [RowKit.intOf]; omega
          · have hR : R = ((false, acc), 0) := by
              rw [Hpb2.out, Hit.out, List.drop_eq_nil_of_le (by have := hSr.len; omega), itemsB]
            have HR := Lib.hid hR
            clear hR
            have k00 := cell_blk q0 0
            have k01 := cell_blk q0 1
            have k02 := frozen_blk q0 0
            have k03 := frozen_blk q0 1
            simp only [List.getElem?_toArray, List.getElem?_cons_zero, List.getElem?_cons_succ] at k00 k01
            have k10 := cell_blk q1 0
            have k11 := cell_blk q1 1
            simp only [List.getElem?_toArray, List.getElem?_cons_zero, List.getElem?_cons_succ] at k10 k11
            go_wp2_with fail
            obtain ⟨z0, z1⟩ := set2_cells q0 (.bool false) (.slice A' n' c')
            have hs9 : Below w.heap.size w ((wr.setCell ⟨w.heap.size, 0, none⟩ (.bool false)).setCell ⟨w.heap.size, 1, none⟩ (.slice A' n' c')) := (hbr.setCell (p := ⟨w.heap.size, 0, none⟩) (Nat.le_refl _) _).setCell (p := ⟨w.heap.size, 1, none⟩) (Nat.le_refl _) _
            have hown9 : ((wr.setCell ⟨w.heap.size, 0, none⟩ (.bool false)).setCell ⟨w.heap.size, 1, none⟩ (.slice A' n' c')).ownsRow W9.heap.size 167 2 (.slice A' n' c') acc.length (itemVs acc) := by
              have h1 := hown.kept (grownBy_setCell2 wr w.heap.size 0 (.bool false)) (.inr (blk_not_row q0 (by decide) hown).symm)
              have h2 := setCell_blk q0 0 (.bool false)
              exact h1.kept (grownBy_setCell2 _ w.heap.size 1 (.slice A' n' c')) (.inr (blk_not_row h2 (by decide) h1).symm)
            obtain ⟨A9, n9, c9, he9, _, hP9⟩ := prs_own hown9
            injection he9 with e1 e2 e3
            subst e1 e2 e3
            refine bodyPost_ret (v := .tuple #[.agg #[.bool false, .slice A' n' c'], .int .i64 0]) (by simp [results, Tryz.results121, go_sem, z0, z1]) rfl ⟨by rw [HR.out]; exact ⟨_, _, _, rfl, hP9, hn'10, own_fresh hown9 hs4⟩, hs9⟩

end Go.Vir
