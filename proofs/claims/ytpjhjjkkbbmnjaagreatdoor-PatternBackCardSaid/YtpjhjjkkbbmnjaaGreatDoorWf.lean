/- viramalaw09: PatternBack. -/
import Derived.Test.YtpjhjjkkbbmnjaaGreatDoorBak
import Derived.Test.YtpjhjjkkbbmnjaaGreatDoorSamA
import Derived.Test.YtpjhjjkkbbmnjaaGreatDoorFew5
import Derived.Test.YtpjhjjkkbbmnjaaGreatDoorWkZ
import Derived.Test.YtpjhjjkkbbmnjaaGreatDoorSub
namespace Go.Vir
open Go Go.RowKit Go.Proofs Go.Shelf
attribute [local go_sem] Oper.semAt_some

theorem list_short {s : Int} {ss : List (List UInt8)} (hr : rightB s ss.length = true) (hs : ∀ x ∈ ss, x.length ≤ 42) : (listB s ss).length ≤ 1376 := by
  have h := join_length [32] 42 (namesL s ss) (fun x hx => hs x (namesL_mem hr rfl hx))
  have h2 := bitsL_len s 32
  have h3 : (namesL s ss).length ≤ 32 := by simpa [namesL] using h2
  have h4 := Nat.mul_le_mul h3 (Nat.le_refl (42 + [(32 : UInt8)].length))
  unfold listB
  simp only [List.length_cons, List.length_nil] at h h4
  omega
theorem print_short {s : Int} {ss : List (List UInt8)} (hr : rightB s ss.length = true) (hs : ∀ x ∈ ss, x.length ≤ 42) : (printB s ss).length ≤ 1379 := by
  have h1 := list_short hr hs
  have h2 := list_short (rightB_not hr) hs
  unfold printB
  split
  · simp
  · split
    · omega
    · split
      · simp; omega
      · simp; omega
theorem pp_short {st : Bool} {xs : List (Int × Int)} {ss : List (List UInt8)} (hs : ∀ x ∈ ss, x.length ≤ 42) : (ppB st xs ss).1.length ≤ 20000 := by
  unfold ppB
  split
  · split
    · rename_i hN hp
      simp only [patB, Bool.and_eq_true, decide_eq_true_eq, List.all_eq_true] at hp
      obtain ⟨_, _, hl, hx⟩ := hp
      have hT : ∀ t ∈ outT st xs ss, t.length ≤ 1381 := fun t ht => by
        unfold outT at ht
        rcases List.mem_append.1 ht with h | h
        · cases st
          · simp at h
          · have : t = [94] := by simpa using h
            rw [this]; simp
        · obtain ⟨x, hxm, rfl⟩ := List.mem_map.1 h
          have hi := hx x hxm
          simp only [itemB, Bool.and_eq_true, decide_eq_true_eq] at hi
          have hpc : pcB x.1 ss = (printB x.1 ss, 0) := by rw [pcB, if_pos hN, if_pos hi.2.2]
          have := print_short hi.2.2 hs
          unfold itemT
          rw [List.length_append, rep_len, hpc]
          show (printB x.1 ss).length + _ ≤ _
          omega
      have hn : (outT st xs ss).length ≤ 11 := by
        unfold outT
        rw [List.length_append, List.length_map]
        cases st <;> simp <;> omega
      have h := join_length [32] 1381 (outT st xs ss) hT
      have h4 := Nat.mul_le_mul hn (Nat.le_refl (1381 + [(32 : UInt8)].length))
      simp only [List.length_cons, List.length_nil] at h h4
      show (Lib.join (outT st xs ss) [32]).length ≤ 20000
      omega
    · simp
  · simp

theorem pp_good {st : Bool} {xs : List (Int × Int)} {ss : List (List UInt8)} : ((ppB st xs ss).2 = 0 ∧ namesB ss = true ∧ patB ss.length xs = true) ∨ ((ppB st xs ss).2 ≠ 0 ∧ (ppB st xs ss).1 = []) := by
  unfold ppB
  split
  · split
    · left; rename_i a b; exact ⟨rfl, a, b⟩
    · right; exact ⟨by decide, rfl⟩
  · right; exact ⟨by decide, rfl⟩
theorem parse_none {s : List UInt8} {ss : List (List UInt8)} (h : (parsePB s ss).2 ≠ 0) : (parsePB s ss).1.2 = [] := by
  unfold parsePB at h ⊢
  split
  · rfl
  · rename_i h1; rw [if_neg h1] at h
    split
    · rfl
    · rename_i h2; rw [if_neg h2] at h
      split
      · rfl
      · rename_i h3; rw [if_neg h3] at h
        split
        · rename_i xs hxs; rw [hxs] at h; simp at h
        · rfl
theorem parse_names {s : List UInt8} {ss : List (List UInt8)} (h : (parsePB s ss).2 = 0) : namesB ss = true := by
  rcases hn : namesB ss with _ | _
  · rw [parsePB, if_pos hn] at h; simp at h
  · rfl

set_option maxRecDepth 100000 in
set_option maxHeartbeats 8000000 in
theorem law_back (st : Bool) (A B : Option Addr) (m0 c0 n0 c1 : Nat) (xs0 : List (Int × Int)) (s0 : List UInt8) (ss0 : List (List UInt8)) (w : World) (hG : Globs w) (hx : Prs w w.heap.size A m0 xs0) (hc0 : m0 ≤ c0) (hz : Strs w w.heap.size B n0 ss0) (hn0 : n0 ≤ 9223372036854775807) (hs0 : s0.length ≤ 9223372036854775807) :
    Calls Tryz.prog 5 #[.agg #[.bool st, .slice A m0 c0], .string ⟨s0.toArray⟩, .slice B n0 c1] w fun e w' => e = .returned (.bool true) ∧ Below w.heap.size w w' := by
  go_enter Tryz.func5, Tryz.ntmps5
  go_wp2_with fail
  have hb0 : Below w.heap.size w (w.alloc (.cells #[.bool st, .slice A m0 c0] 24)) := by go_grown
  have k0 : (w.alloc (.cells #[.bool st, .slice A m0 c0] 24)).heap[w.heap.size]? = some (.cells #[.bool st, .slice A m0 c0] 24 (0, 0)) := heap_new rfl
  refine (law_shown _ (hG.below hb0)).mono ?_
  rintro e w1 ⟨rfl, hb1⟩
  have q0 := (hb1.block _ (Array.getElem?_eq_some_iff.1 k0).1).trans k0
  have hb2 : Below w.heap.size w w1 := hb0.trans (hb1.mono hb0.size)
  clear k0 hb0 hb1
  have c00 := cell_blk q0 0
  have c01 := cell_blk q0 1
  simp only [List.getElem?_toArray, List.getElem?_cons_zero, List.getElem?_cons_succ] at c00 c01
  go_wp2_with fail
  refine (law_Cut st A m0 c0 w1 hc0).mono ?_
  rintro e w2 ⟨rfl, hb3⟩
  have r0 := (hb3.block _ (Array.getElem?_eq_some_iff.1 q0).1).trans q0
  have hb4 : Below w.heap.size w w2 := hb2.trans (hb3.mono hb2.size)
  clear q0 c00 c01 hb3 hb2
  have f00 := frozen_blk r0 0
  have f01 := frozen_blk r0 1
  have c00 := cell_blk r0 0
  have c01 := cell_blk r0 1
  simp only [List.getElem?_toArray, List.getElem?_cons_zero, List.getElem?_cons_succ] at c00 c01
  go_upto_region 3 with fail
  have k0 := setCell_blk (setCell_blk r0 0 (.bool st)) 1 (.slice A (min m0 12) c0)
  have hb5 : Below w.heap.size w ((w2.setCell ⟨w.heap.size, 0, none⟩ (.bool st)).setCell ⟨w.heap.size, 1, none⟩ (.slice A (min m0 12) c0)) := (hb4.setCell (p := ⟨w.heap.size, 0, none⟩) (Nat.le_refl _) _).setCell (p := ⟨w.heap.size, 1, none⟩) (Nat.le_refl _) _
  clear f00 f01 c00 c01 r0 hb4
  generalize ((w2.setCell ⟨w.heap.size, 0, none⟩ (.bool st)).setCell ⟨w.heap.size, 1, none⟩ (.slice A (min m0 12) c0)) = W at *
  have k0' : W.heap[w.heap.size]? = some (.cells #[.bool st, .slice A (min m0 12) c0] 24 (0, 0)) := k0
  clear k0
  have hm12 : min m0 12 ≤ 12 := by omega
  have hxW := ((hx.below hb5).more hb5.size).take (min m0 12) (by omega)
  generalize min m0 12 = m at *
  generalize xs0.take m = xs at *
  go_wp2_with fail
  simp only [show (min (s0.length : Int) 300).toNat = min s0.length 300 by omega, text_cut]
  have hsl : (s0.take (min s0.length 300)).length ≤ 300 := by simp; omega
  generalize s0.take (min s0.length 300) = s at *
  refine (law_Few5 B n0 c1 ss0 W ((hz.below hb5).more hb5.size) hn0).mono ?_
  rintro e w3 ⟨⟨B', n', c', rfl, hn', hS⟩, hb6⟩
  obtain ⟨hf1, hf2⟩ := few_len ss0
  have hsn := hS.len
  generalize fewL ss0 = ss at *
  have hs1000 : ∀ x ∈ ss, x.length ≤ 1000 := fun x hx => by have := hf2 x hx; omega
  have hb7 : Below w.heap.size w w3 := hb5.trans (hb6.mono hb5.size)
  have k3 := (hb6.block _ (Array.getElem?_eq_some_iff.1 k0').1).trans k0'
  have hx3 := (hxW.below hb6).more hb6.size
  have hn34 : n' ≤ 34 := by omega
  have ht := pp_short (st := st) (xs := xs) hf2
  have hgood := pp_good (st := st) (xs := xs) (ss := ss)
  have hback := fun h1 h2 => pattern_back (ss := ss) (st := st) (xs := xs) h1 h2
  have hpp := pattern_Print st A B' m c0 n' c' xs ss w3 (hG.below hb7) hx3 (by omega) (by omega) hS hs1000
  generalize ppB st xs ss = pp at hpp ht hgood hback
  obtain ⟨t, pe⟩ := pp
  simp only at hpp ht hgood hback
  have c00 := cell_blk k3 0
  have c01 := cell_blk k3 1
  simp only [List.getElem?_toArray, List.getElem?_cons_zero, List.getElem?_cons_succ] at c00 c01
  clear hb5 hb6 k0' hxW hx hz hsn hf1 hf2
  go_wp2_with fail
  refine hpp.mono ?_
  rintro e w4 ⟨rfl, hb8⟩
  have k4 := (hb8.block _ (Array.getElem?_eq_some_iff.1 k3).1).trans k3
  have hb9 : Below w.heap.size w w4 := hb7.trans (hb8.mono hb7.size)
  have hx4 := (hx3.below hb8).more hb8.size
  have hS4 := (hS.below hb8).more hb8.size
  clear hpp hb7 hb8 k3 hx3 hS c00 c01
  go_wp2_with fail
  have hp1 := pattern_Parse t B' n' c' ss w4 (hG.below hb9) (by omega) hS4 hs1000 (by omega)
  rcases hgood with ⟨rfl, hN, hPt⟩ | ⟨hpe, rfl⟩
  · rw [hback hN hPt] at hp1
    refine hp1.mono ?_
    rintro e w5 ⟨⟨A2, n2, c2, rfl, hP2, hn2⟩, hb10⟩
    simp only at hP2
    have hbx : Below w4.heap.size w4 (w5.alloc (.cells #[.bool st, .slice A2 n2 c2] 24)) := hb10.alloc hb10.size _
    have d1 : (w5.alloc (.cells #[.bool st, .slice A2 n2 c2] 24)).heap[w5.heap.size]? = some (.cells #[.bool st, .slice A2 n2 c2] 24 (0, 0)) := heap_new rfl
    have hP2x := (hP2.below ((Below.refl _ w5).alloc (Nat.le_refl _) (.cells #[.bool st, .slice A2 n2 c2] 24))).more (show w5.heap.size ≤ (w5.alloc (.cells #[.bool st, .slice A2 n2 c2] 24)).heap.size by simp)
    have k5 := (hbx.block _ (Array.getElem?_eq_some_iff.1 k4).1).trans k4
    have hb11 : Below w.heap.size w (w5.alloc (.cells #[.bool st, .slice A2 n2 c2] 24)) := hb9.trans (hbx.mono hb9.size)
    have hx5 := (hx4.below hbx).more hbx.size
    have hS5 := (hS4.below hbx).more hbx.size
    have hsame := pattern_Same st st A A2 m c0 n2 c2 xs xs (w5.alloc (.cells #[.bool st, .slice A2 n2 c2] 24)) hx5 hP2x (by omega) (by omega)
    rw [show sameB st st xs xs = true by simp [sameB]] at hsame
    have c00 := cell_blk k5 0
    have c01 := cell_blk k5 1
    simp only [List.getElem?_toArray, List.getElem?_cons_zero, List.getElem?_cons_succ] at c00 c01
    have Hsame := Lib.hid hsame
    clear hsame hp1 hbx hb10 hP2 hx4 hS4 k4 hb9 hback d1
    go_wp2_with fail
    refine Hsame.out.mono ?_
    rintro e w6 ⟨rfl, hbq⟩
    have hb12 := hb11.trans (hbq.mono hb11.size)
    have hS6 := (hS5.below hbq).more hbq.size
    clear c00 c01 k5 hb11 hx5 hS5 hbq Hsame hP2x
    have hR2 := pattern_Parse s B' n' c' ss w6 (hG.below hb12) (by omega) hS6 hs1000 (by omega)
    have hnone := parse_none (s := s) (ss := ss)
    have hright := fun (h : (parsePB s ss).2 = 0) => pattern_right (parse_names h) h
    rw [hS6.len] at hright
    generalize parsePB s ss = r2 at hR2 hnone hright
    obtain ⟨⟨st3, xs3⟩, g⟩ := r2
    simp only at hnone hright
    go_wp2_with fail
    refine hR2.mono ?_
    rintro e w7 ⟨⟨A3, n3, c3, rfl, hP3, hn3⟩, hb13⟩
    simp only at hP3
    have hb14 := hb12.trans (hb13.mono hb12.size)
    clear hR2 hb13 hS6 hb12
    rcases hg : (g == 0) with _ | _
    · have hgne : g ≠ 0 := by rw [beq_eq_false_iff_ne] at hg; exact hg
      have hg2 : (g != 0) = true := by rw [bne_iff_ne]; exact hgne
      have hl3 := hP3.len
      rw [hnone hgne] at hl3
      have hz3 : n3 = 0 := by simpa using hl3.symm
      subst hz3
      clear hl3 hgne hnone hright
      go_wp2_with fail
      go_ret
      exact ⟨rfl, hb14.alloc hb14.size _⟩
    · have hg0 : g = 0 := by rw [beq_iff_eq] at hg; exact hg
      have hpr := hright hg0
      have hb15 := hb14.alloc hb14.size (.cells #[.bool st3, .slice A3 n3 c3] 24)
      have hrr := pattern_Right st3 A3 n3 c3 xs3 (n' : Int) (w7.alloc (.cells #[.bool st3, .slice A3 n3 c3] 24)) ((hP3.below ((Below.refl _ _).alloc (Nat.le_refl _) _)).more (by simp)) (by omega)
      rw [hpr] at hrr
      have Hrr := Lib.hid hrr
      clear hrr hpr hright hnone hg
      subst hg0
      go_wp2_with fail
      refine Hrr.out.mono ?_
      rintro e w8 ⟨rfl, hb16⟩
      have hb17 := hb15.trans (hb16.mono hb15.size)
      clear hb15 hb16 Hrr
      go_wp2_with fail
      go_ret
      exact ⟨rfl, hb17⟩
  · refine hp1.mono ?_
    generalize parsePB [] ss = r
    rintro e w5 ⟨⟨A2, n2, c2, rfl, hP2, hn2⟩, hb10⟩
    obtain ⟨⟨st2, xs2⟩, f⟩ := r
    simp only
    have hbx : Below w4.heap.size w4 (w5.alloc (.cells #[.bool st2, .slice A2 n2 c2] 24)) := hb10.alloc hb10.size _
    have hb12 : Below w.heap.size w (w5.alloc (.cells #[.bool st2, .slice A2 n2 c2] 24)) := hb9.trans (hbx.mono hb9.size)
    have hS6 := (hS4.below hbx).more hbx.size
    have hpe2 : (pe == 0) = false := by rw [beq_eq_false_iff_ne]; exact hpe
    clear hp1 hbx hb10 hP2 hx4 hS4 k4 hb9 hback hpe
    generalize hw6 : (w5.alloc (.cells #[.bool st2, .slice A2 n2 c2] 24)) = w6 at *
    have hR2 := pattern_Parse s B' n' c' ss w6 (hG.below hb12) (by omega) hS6 hs1000 (by omega)
    have hnone := parse_none (s := s) (ss := ss)
    have hright := fun (h : (parsePB s ss).2 = 0) => pattern_right (parse_names h) h
    rw [hS6.len] at hright
    generalize parsePB s ss = r2 at hR2 hnone hright
    obtain ⟨⟨st3, xs3⟩, g⟩ := r2
    simp only at hnone hright
    go_wp2_with fail
    clear hw6
    refine hR2.mono ?_
    rintro e w7 ⟨⟨A3, n3, c3, rfl, hP3, hn3⟩, hb13⟩
    simp only at hP3
    have hb14 := hb12.trans (hb13.mono hb12.size)
    clear hR2 hb13 hS6 hb12
    rcases hg : (g == 0) with _ | _
    · have hgne : g ≠ 0 := by rw [beq_eq_false_iff_ne] at hg; exact hg
      have hg2 : (g != 0) = true := by rw [bne_iff_ne]; exact hgne
      have hl3 := hP3.len
      rw [hnone hgne] at hl3
      have hz3 : n3 = 0 := by simpa using hl3.symm
      subst hz3
      clear hl3 hgne hnone hright
      go_wp2_with fail
      go_ret
      exact ⟨rfl, hb14.alloc hb14.size _⟩
    · have hg0 : g = 0 := by rw [beq_iff_eq] at hg; exact hg
      have hpr := hright hg0
      have hb15 := hb14.alloc hb14.size (.cells #[.bool st3, .slice A3 n3 c3] 24)
      have hrr := pattern_Right st3 A3 n3 c3 xs3 (n' : Int) (w7.alloc (.cells #[.bool st3, .slice A3 n3 c3] 24)) ((hP3.below ((Below.refl _ _).alloc (Nat.le_refl _) _)).more (by simp)) (by omega)
      rw [hpr] at hrr
      have Hrr := Lib.hid hrr
      clear hrr hpr hright hnone hg
      subst hg0
      go_wp2_with fail
      refine Hrr.out.mono ?_
      rintro e w8 ⟨rfl, hb16⟩
      have hb17 := hb15.trans (hb16.mono hb15.size)
      clear hb15 hb16 Hrr
      go_wp2_with fail
      go_ret
      exact ⟨rfl, hb17⟩
end Go.Vir
