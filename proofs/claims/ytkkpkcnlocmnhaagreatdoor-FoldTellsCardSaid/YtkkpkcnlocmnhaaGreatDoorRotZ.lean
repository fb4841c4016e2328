/- For any two cases and number: which cases are right, which are the same, what a scalar becomes, of which kind it is, is what the document says. (The listed variables are tied to the text.) -/
import Derived.Test.YtkkpkcnlocmnhaaGreatDoorJn
import Derived.Test.YtkkpkcnlocmnhaaGreatDoorJb
import Derived.Test.YtkkpkcnlocmnhaaGreatDoorJo
import Derived.Test.YtkkpkcnlocmnhaaGreatDoorJq
import Derived.Test.YtkkpkcnlocmnhaaGreatDoorTie
import Derived.Test.YtkkpkcnlocmnhaaGreatDoorCards
import Derived.SliceStrings
import Derived.ChangeMaps5
namespace Go.Vir
open Go Go.RowKit Go.Proofs Go.Shelf
attribute [local go_sem] Oper.semAt_some

theorem low_short (c : CasV) (r : Int) : (lowC c r).1.length ≤ 3 ∧ (titC c r).1.length ≤ 3 := by
  by_cases h : chkC c r = 0
  · obtain ⟨h1, h2⟩ := three_law h
    unfold allM at h1 h2
    simp only [Bool.and_eq_true, decide_eq_true_eq] at h1 h2
    unfold lowC titC
    rw [if_pos h, if_pos h]
    exact ⟨h1.2, h2.2⟩
  · obtain ⟨h1, h2, _⟩ := low_bad h
    rw [h1, h2]
    exact ⟨by simp, by simp⟩

set_option maxRecDepth 100000 in
set_option maxHeartbeats 8000000 in
theorem law_foldtells (a7 : CasA) (c7 : CasV) (a8 : CasA) (c8 : CasV) (r : Int) (w : World) (hG : GlobP w) (hC7 : CasW w w.heap.size a7 c7) (hS7 : CasS a7 c7) (hC8 : CasW w w.heap.size a8 c8) (hS8 : CasS a8 c8) :
    Calls Tryz.prog 4 #[a7.val, a8.val, .int .i64 r] w fun e w' => e = .returned (.bool true) ∧ Below w.heap.size w w' := by
  obtain ⟨Al_7, nl_7, cl_7, At_7, nt_7, ct_7, Ci_7, ni_7, ci_7, Cb_7, nb_7, cb_7, Ii_7, mi_7, di_7, Ib_7, mb_7, db_7⟩ := a7
  obtain ⟨Al_8, nl_8, cl_8, At_8, nt_8, ct_8, Ci_8, ni_8, ci_8, Cb_8, nb_8, cb_8, Ii_8, mi_8, di_8, Ib_8, mb_8, db_8⟩ := a8
  simp only [CasA.val, CasA.cs]
  obtain ⟨W0, hW0⟩ : ∃ W0, W0 = ((w.alloc (.cells #[.slice Al_7 nl_7 cl_7, .slice At_7 nt_7 ct_7, .slice Ci_7 ni_7 ci_7, .slice Cb_7 nb_7 cb_7, .slice Ii_7 mi_7 di_7, .slice Ib_7 mb_7 db_7] 29)).alloc (.cells #[.slice Al_8 nl_8 cl_8, .slice At_8 nt_8 ct_8, .slice Ci_8 ni_8 ci_8, .slice Cb_8 nb_8 cb_8, .slice Ii_8 mi_8 di_8, .slice Ib_8 mb_8 db_8] 29)) := ⟨_, rfl⟩
  have hbw0 : Below w.heap.size w W0 := by rw [hW0]; go_grown
  have Hx7 := Lib.hid (show W0.heap[w.heap.size]? = some (.cells #[.slice Al_7 nl_7 cl_7, .slice At_7 nt_7 ct_7, .slice Ci_7 ni_7 ci_7, .slice Cb_7 nb_7 cb_7, .slice Ii_7 mi_7 di_7, .slice Ib_7 mb_7 db_7] 29 (0, 0)) from (by rw [hW0]; simp (disch := (first | omega | (simp only [World.size_alloc]; done) | (simp only [World.size_alloc]; omega))) only [heap_laws]))
  have Hx8 := Lib.hid (show W0.heap[w.heap.size + 1]? = some (.cells #[.slice Al_8 nl_8 cl_8, .slice At_8 nt_8 ct_8, .slice Ci_8 ni_8 ci_8, .slice Cb_8 nb_8 cb_8, .slice Ii_8 mi_8 di_8, .slice Ib_8 mb_8 db_8] 29 (0, 0)) from (by rw [hW0]; simp (disch := (first | omega | (simp only [World.size_alloc]; done) | (simp only [World.size_alloc]; omega))) only [heap_laws]))
  have H0 := Lib.hid (law16_shown W0 (hG.below hbw0))
  have HG := Lib.hid hG
  have Hbw := Lib.hid hbw0
  have HC7 := Lib.hid hC7
  have HS7 := Lib.hid hS7
  have HC8 := Lib.hid hC8
  have HS8 := Lib.hid hS8
  clear hG hbw0 hC7 hS7 hC8 hS8
  go_enter Tryz.func4, Tryz.ntmps4
  go_upto_region 1 with fail
  rw [← hW0]
  clear hW0
  go_wp2_with fail
  refine H0.out.mono ?_
  clear H0
  rintro e w1 ⟨rfl, hb⟩
  replace Hbw := Lib.hid (Hbw.out.trans (hb.mono Hbw.out.size))
  replace Hx7 := Lib.hid ((hb.block _ (Array.getElem?_eq_some_iff.1 Hx7.out).1).trans Hx7.out)
  replace Hx8 := Lib.hid ((hb.block _ (Array.getElem?_eq_some_iff.1 Hx8.out).1).trans Hx8.out)
  clear hb
  have hszF : w.heap.size + 1 < w1.heap.size := (Array.getElem?_eq_some_iff.1 Hx8.out).1
  have hsz1 : w.heap.size < w1.heap.size := (Array.getElem?_eq_some_iff.1 Hx7.out).1
  go_upto_region 2 with fail
  obtain ⟨f0_7, f1_7, f2_7, f3_7, f4_7, f5_7⟩ := cells6 Hx7.out
  have h := law16_Table w.heap.size ⟨Al_7, nl_7, cl_7, At_7, nt_7, ct_7, Ci_7, ni_7, ci_7, Cb_7, nb_7, cb_7, Ii_7, mi_7, di_7, Ib_7, mb_7, db_7⟩ c7 w1 (HC7.out.below Hbw.out) Hbw.out.size HS7.out
  have H := Lib.hid h
  clear h
  go_wp2_with fail
  refine H.out.mono ?_
  clear H
  clear f0_7 f1_7 f2_7 f3_7 f4_7 f5_7
  rintro e w2 ⟨⟨A, rfl, hF⟩, hb⟩
  obtain ⟨Al_1, nl_1, cl_1, At_1, nt_1, ct_1, Ci_1, ni_1, ci_1, Cb_1, nb_1, cb_1, Ii_1, mi_1, di_1, Ib_1, mb_1, db_1⟩ := A
  simp only [CasA.val, CasA.cs]
  have d6 := (hb.block _ (Array.getElem?_eq_some_iff.1 Hx7.out).1).trans Hx7.out
  have hbw2 := Hbw.out.trans (hb.mono Hbw.out.size)
  have hot := (hb.block _ (Array.getElem?_eq_some_iff.1 Hx8.out).1).trans Hx8.out
  obtain ⟨g1, g2, g3, g4⟩ := six_stored (.slice Al_1 nl_1 cl_1) (.slice At_1 nt_1 ct_1) (.slice Ci_1 ni_1 ci_1) (.slice Cb_1 nb_1 cb_1) (.slice Ii_1 mi_1 di_1) (.slice Ib_1 mb_1 db_1) d6 hbw2 (show w.heap.size ≤ w.heap.size by omega)
  obtain ⟨i0, i1, i2, i3, i4, i5⟩ := cells6 d6
  have s0 := frozen_blk d6 0
  have s1 := frozen_blk d6 1
  have s2 := frozen_blk d6 2
  have s3 := frozen_blk d6 3
  have s4 := frozen_blk d6 4
  have s5 := frozen_blk d6 5
  obtain ⟨w3, hW⟩ : ∃ W, W = (((((w2.setCell ⟨w.heap.size, 0, none⟩ (.slice Al_1 nl_1 cl_1)).setCell ⟨w.heap.size, 1, none⟩ (.slice At_1 nt_1 ct_1)).setCell ⟨w.heap.size, 2, none⟩ (.slice Ci_1 ni_1 ci_1)).setCell ⟨w.heap.size, 3, none⟩ (.slice Cb_1 nb_1 cb_1)).setCell ⟨w.heap.size, 4, none⟩ (.slice Ii_1 mi_1 di_1)).setCell ⟨w.heap.size, 5, none⟩ (.slice Ib_1 mb_1 db_1) := ⟨_, rfl⟩
  rw [← hW] at g1 g2 g3 g4
  have hF3 := hF.keep (Nat.le_of_eq g4.symm) (fun k hk => g3 k (by omega)) (fun k hk _ => g3 k (by omega))
  have HA1 := Lib.hid (hF3.cas g2.size)
  have HO1 := Lib.hid (tab_ok hF3)
  replace Hx8 := Lib.hid ((g3 _ (by omega)).trans hot)
  clear hot
  have HF1 := Lib.hid hF3
  replace Hbw := Lib.hid g2
  replace Hx7 := Lib.hid g1
  clear g1 g2 g3 g4 d6 hbw2 hb hF hF3
  go_upto_region 3 with fail
  rw [← hW]
  clear hW i0 i1 i2 i3 i4 i5 s0 s1 s2 s3 s4 s5
  have hsz3 : w.heap.size + 1 < w3.heap.size := (Array.getElem?_eq_some_iff.1 Hx8.out).1
  go_upto_region 3 with fail
  obtain ⟨f0_8, f1_8, f2_8, f3_8, f4_8, f5_8⟩ := cells6 Hx8.out
  have h := law16_Table w.heap.size ⟨Al_8, nl_8, cl_8, At_8, nt_8, ct_8, Ci_8, ni_8, ci_8, Cb_8, nb_8, cb_8, Ii_8, mi_8, di_8, Ib_8, mb_8, db_8⟩ c8 w3 (HC8.out.below Hbw.out) Hbw.out.size HS8.out
  have H := Lib.hid h
  clear h
  go_wp2_with fail
  refine H.out.mono ?_
  clear H
  clear f0_8 f1_8 f2_8 f3_8 f4_8 f5_8
  rintro e w4 ⟨⟨A, rfl, hF⟩, hb⟩
  obtain ⟨Al_2, nl_2, cl_2, At_2, nt_2, ct_2, Ci_2, ni_2, ci_2, Cb_2, nb_2, cb_2, Ii_2, mi_2, di_2, Ib_2, mb_2, db_2⟩ := A
  simp only [CasA.val, CasA.cs]
  have d6 := (hb.block _ (Array.getElem?_eq_some_iff.1 Hx8.out).1).trans Hx8.out
  have hbw2 := Hbw.out.trans (hb.mono Hbw.out.size)
  have hot := (hb.block _ (Array.getElem?_eq_some_iff.1 Hx7.out).1).trans Hx7.out
  have hbF := hb
  obtain ⟨g1, g2, g3, g4⟩ := six_stored (.slice Al_2 nl_2 cl_2) (.slice At_2 nt_2 ct_2) (.slice Ci_2 ni_2 ci_2) (.slice Cb_2 nb_2 cb_2) (.slice Ii_2 mi_2 di_2) (.slice Ib_2 mb_2 db_2) d6 hbw2 (show w.heap.size ≤ w.heap.size + 1 by omega)
  obtain ⟨i0, i1, i2, i3, i4, i5⟩ := cells6 d6
  have s0 := frozen_blk d6 0
  have s1 := frozen_blk d6 1
  have s2 := frozen_blk d6 2
  have s3 := frozen_blk d6 3
  have s4 := frozen_blk d6 4
  have s5 := frozen_blk d6 5
  obtain ⟨w5, hW⟩ : ∃ W, W = (((((w4.setCell ⟨w.heap.size + 1, 0, none⟩ (.slice Al_2 nl_2 cl_2)).setCell ⟨w.heap.size + 1, 1, none⟩ (.slice At_2 nt_2 ct_2)).setCell ⟨w.heap.size + 1, 2, none⟩ (.slice Ci_2 ni_2 ci_2)).setCell ⟨w.heap.size + 1, 3, none⟩ (.slice Cb_2 nb_2 cb_2)).setCell ⟨w.heap.size + 1, 4, none⟩ (.slice Ii_2 mi_2 di_2)).setCell ⟨w.heap.size + 1, 5, none⟩ (.slice Ib_2 mb_2 db_2) := ⟨_, rfl⟩
  rw [← hW] at g1 g2 g3 g4
  have hF3 := hF.keep (Nat.le_of_eq g4.symm) (fun k hk => g3 k (by omega)) (fun k hk _ => g3 k (by omega))
  have HA2 := Lib.hid (hF3.cas g2.size)
  have HO2 := Lib.hid (tab_ok hF3)
  replace Hx7 := Lib.hid ((g3 _ (by omega)).trans hot)
  clear hot
  have hF1 := (HF1.out.keep (Nat.le_trans hbF.size (Nat.le_of_eq g4.symm)) (fun k hk => (g3 k (by omega)).trans (hbF.block k (by omega))) (fun k hk hl => (g3 k (by omega)).trans (hbF.block k hl)))
  replace HA1 := Lib.hid (hF1.cas g2.size)
  clear hF1 HF1 hbF
  replace Hbw := Lib.hid g2
  replace Hx8 := Lib.hid g1
  clear g1 g2 g3 g4 d6 hbw2 hb hF hF3
  go_upto_region 4 with fail
  rw [← hW]
  clear hW i0 i1 i2 i3 i4 i5 s0 s1 s2 s3 s4 s5
  have Hx1 := Lib.hid Hx7.out
  have Hx2 := Lib.hid Hx8.out
  clear Hx7 Hx8
  generalize tabC c7 = d1 at *
  clear HC7 HS7
  generalize tabC c8 = d2 at *
  clear HC8 HS8
  go_upto_region 4 with fail
  obtain ⟨f0_1, f1_1, f2_1, f3_1, f4_1, f5_1⟩ := cells6 Hx1.out
  have h := fold_Lower ⟨Al_1, nl_1, cl_1, At_1, nt_1, ct_1, Ci_1, ni_1, ci_1, Cb_1, nb_1, cb_1, Ii_1, mi_1, di_1, Ib_1, mb_1, db_1⟩ d1 r w5 HA1.out HO1.out
  have H := Lib.hid h
  clear h
  go_wp2_with fail
  refine H.out.mono ?_
  clear H
  clear f0_1 f1_1 f2_1 f3_1 f4_1 f5_1
  rintro e w6 ⟨⟨Pa, ma, qa, rfl, _, hI⟩, hb⟩
  dsimp only at hI ⊢
  have hla := hI.len
  have HIa := Lib.hid hI
  clear hI
  replace Hbw := Lib.hid (Hbw.out.trans (hb.mono Hbw.out.size))
  replace Hx1 := Lib.hid ((hb.block _ (Array.getElem?_eq_some_iff.1 Hx1.out).1).trans Hx1.out)
  replace Hx2 := Lib.hid ((hb.block _ (Array.getElem?_eq_some_iff.1 Hx2.out).1).trans Hx2.out)
  replace HA1 := Lib.hid ((HA1.out.below hb).more hb.size)
  replace HA2 := Lib.hid ((HA2.out.below hb).more hb.size)
  clear hb
  go_upto_region 5 with fail
  obtain ⟨f0_1, f1_1, f2_1, f3_1, f4_1, f5_1⟩ := cells6 Hx1.out
  have h := ref16_Lower ⟨Al_1, nl_1, cl_1, At_1, nt_1, ct_1, Ci_1, ni_1, ci_1, Cb_1, nb_1, cb_1, Ii_1, mi_1, di_1, Ib_1, mb_1, db_1⟩ d1 r w6 HA1.out HO1.out
  have H := Lib.hid h
  clear h
  go_wp2_with fail
  refine H.out.mono ?_
  clear H
  clear f0_1 f1_1 f2_1 f3_1 f4_1 f5_1
  rintro e w7 ⟨⟨Pb, mb, qb, rfl, _, hI⟩, hb⟩
  dsimp only at hI ⊢
  have hlb := hI.len
  have HIb := Lib.hid hI
  clear hI
  replace Hbw := Lib.hid (Hbw.out.trans (hb.mono Hbw.out.size))
  replace Hx1 := Lib.hid ((hb.block _ (Array.getElem?_eq_some_iff.1 Hx1.out).1).trans Hx1.out)
  replace Hx2 := Lib.hid ((hb.block _ (Array.getElem?_eq_some_iff.1 Hx2.out).1).trans Hx2.out)
  replace HA1 := Lib.hid ((HA1.out.below hb).more hb.size)
  replace HA2 := Lib.hid ((HA2.out.below hb).more hb.size)
  replace HIa := Lib.hid ((HIa.out.below hb).more hb.size)
  clear hb
  go_upto_region 6 with fail
  obtain ⟨f0_1, f1_1, f2_1, f3_1, f4_1, f5_1⟩ := cells6 Hx1.out
  have h := fold_Title ⟨Al_1, nl_1, cl_1, At_1, nt_1, ct_1, Ci_1, ni_1, ci_1, Cb_1, nb_1, cb_1, Ii_1, mi_1, di_1, Ib_1, mb_1, db_1⟩ d1 r w7 HA1.out HO1.out
  have H := Lib.hid h
  clear h
  go_wp2_with fail
  refine H.out.mono ?_
  clear H
  clear f0_1 f1_1 f2_1 f3_1 f4_1 f5_1
  rintro e w8 ⟨⟨Pg, mg, qg, rfl, _, hI⟩, hb⟩
  dsimp only at hI ⊢
  have hlg := hI.len
  have HIg := Lib.hid hI
  clear hI
  replace Hbw := Lib.hid (Hbw.out.trans (hb.mono Hbw.out.size))
  replace Hx1 := Lib.hid ((hb.block _ (Array.getElem?_eq_some_iff.1 Hx1.out).1).trans Hx1.out)
  replace Hx2 := Lib.hid ((hb.block _ (Array.getElem?_eq_some_iff.1 Hx2.out).1).trans Hx2.out)
  replace HA1 := Lib.hid ((HA1.out.below hb).more hb.size)
  replace HA2 := Lib.hid ((HA2.out.below hb).more hb.size)
  replace HIa := Lib.hid ((HIa.out.below hb).more hb.size)
  replace HIb := Lib.hid ((HIb.out.below hb).more hb.size)
  clear hb
  go_upto_region 7 with fail
  obtain ⟨f0_1, f1_1, f2_1, f3_1, f4_1, f5_1⟩ := cells6 Hx1.out
  have h := ref16_Title ⟨Al_1, nl_1, cl_1, At_1, nt_1, ct_1, Ci_1, ni_1, ci_1, Cb_1, nb_1, cb_1, Ii_1, mi_1, di_1, Ib_1, mb_1, db_1⟩ d1 r w8 HA1.out HO1.out
  have H := Lib.hid h
  clear h
  go_wp2_with fail
  refine H.out.mono ?_
  clear H
  clear f0_1 f1_1 f2_1 f3_1 f4_1 f5_1
  rintro e w9 ⟨⟨Pi, mi, qi, rfl, _, hI⟩, hb⟩
  dsimp only at hI ⊢
  have hli := hI.len
  have HIi := Lib.hid hI
  clear hI
  replace Hbw := Lib.hid (Hbw.out.trans (hb.mono Hbw.out.size))
  replace Hx1 := Lib.hid ((hb.block _ (Array.getElem?_eq_some_iff.1 Hx1.out).1).trans Hx1.out)
  replace Hx2 := Lib.hid ((hb.block _ (Array.getElem?_eq_some_iff.1 Hx2.out).1).trans Hx2.out)
  replace HA1 := Lib.hid ((HA1.out.below hb).more hb.size)
  replace HA2 := Lib.hid ((HA2.out.below hb).more hb.size)
  replace HIa := Lib.hid ((HIa.out.below hb).more hb.size)
  replace HIb := Lib.hid ((HIb.out.below hb).more hb.size)
  replace HIg := Lib.hid ((HIg.out.below hb).more hb.size)
  clear hb
  have hla2 : ma ≤ 1000000 := by
    have h := low_short d1 r
    omega
  have hlg2 : mg ≤ 1000000 := by
    have h := low_short d1 r
    omega
  clear hla hlb hlg hli
  go_upto_region 8 with fail
  obtain ⟨f0_1, f1_1, f2_1, f3_1, f4_1, f5_1⟩ := cells6 Hx1.out
  have h := fold_Kind ⟨Al_1, nl_1, cl_1, At_1, nt_1, ct_1, Ci_1, ni_1, ci_1, Cb_1, nb_1, cb_1, Ii_1, mi_1, di_1, Ib_1, mb_1, db_1⟩ d1 r w9 HA1.out HO1.out
  have H := Lib.hid h
  clear h
  go_wp2_with fail
  refine H.out.mono ?_
  clear H
  clear f0_1 f1_1 f2_1 f3_1 f4_1 f5_1
  rintro e w10 ⟨rfl, hb⟩
  replace Hbw := Lib.hid (Hbw.out.trans (hb.mono Hbw.out.size))
  replace Hx1 := Lib.hid ((hb.block _ (Array.getElem?_eq_some_iff.1 Hx1.out).1).trans Hx1.out)
  replace Hx2 := Lib.hid ((hb.block _ (Array.getElem?_eq_some_iff.1 Hx2.out).1).trans Hx2.out)
  replace HA1 := Lib.hid ((HA1.out.below hb).more hb.size)
  replace HA2 := Lib.hid ((HA2.out.below hb).more hb.size)
  replace HIa := Lib.hid ((HIa.out.below hb).more hb.size)
  replace HIb := Lib.hid ((HIb.out.below hb).more hb.size)
  replace HIg := Lib.hid ((HIg.out.below hb).more hb.size)
  replace HIi := Lib.hid ((HIi.out.below hb).more hb.size)
  clear hb
  go_upto_region 9 with fail
  obtain ⟨f0_1, f1_1, f2_1, f3_1, f4_1, f5_1⟩ := cells6 Hx1.out
  have h := ref16_Kind ⟨Al_1, nl_1, cl_1, At_1, nt_1, ct_1, Ci_1, ni_1, ci_1, Cb_1, nb_1, cb_1, Ii_1, mi_1, di_1, Ib_1, mb_1, db_1⟩ d1 r w10 HA1.out HO1.out
  have H := Lib.hid h
  clear h
  go_wp2_with fail
  refine H.out.mono ?_
  clear H
  clear f0_1 f1_1 f2_1 f3_1 f4_1 f5_1
  rintro e w11 ⟨rfl, hb⟩
  replace Hbw := Lib.hid (Hbw.out.trans (hb.mono Hbw.out.size))
  replace Hx1 := Lib.hid ((hb.block _ (Array.getElem?_eq_some_iff.1 Hx1.out).1).trans Hx1.out)
  replace Hx2 := Lib.hid ((hb.block _ (Array.getElem?_eq_some_iff.1 Hx2.out).1).trans Hx2.out)
  replace HA1 := Lib.hid ((HA1.out.below hb).more hb.size)
  replace HA2 := Lib.hid ((HA2.out.below hb).more hb.size)
  replace HIa := Lib.hid ((HIa.out.below hb).more hb.size)
  replace HIb := Lib.hid ((HIb.out.below hb).more hb.size)
  replace HIg := Lib.hid ((HIg.out.below hb).more hb.size)
  replace HIi := Lib.hid ((HIi.out.below hb).more hb.size)
  clear hb
  generalize (kindC d1 r).1 = ka at *
  generalize (kindC d1 r).2.1 = kb at *
  generalize (kindC d1 r).2.2 = kc at *
  generalize (lowC d1 r).2 = ea at *
  generalize (titC d1 r).2 = eb at *
  generalize (lowC d1 r).1 = la at *
  generalize (titC d1 r).1 = lb at *
  have hn1 : nl_1 ≤ 1000000 := HO1.out.nl
  have C69 := Lib.hid (fun (W : World) (hW : Below w11.heap.size w11 W) => fold_Maps Al_1 nl_1 cl_1 d1.lo W ((Mps.below HA1.out.lo hW).more hW.size) hn1 HO1.out.lo)
  have C72 := Lib.hid (fun (W : World) (hW : Below w11.heap.size w11 W) => ref16_Maps Al_1 nl_1 cl_1 d1.lo W ((Mps.below HA1.out.lo hW).more hW.size) hn1 HO1.out.lo)
  have C77 := Lib.hid (fun (W : World) (hW : Below w11.heap.size w11 W) => fold_Right ⟨Al_1, nl_1, cl_1, At_1, nt_1, ct_1, Ci_1, ni_1, ci_1, Cb_1, nb_1, cb_1, Ii_1, mi_1, di_1, Ib_1, mb_1, db_1⟩ d1 W ((HA1.out.below hW).more hW.size) HO1.out)
  have C79 := Lib.hid (fun (W : World) (hW : Below w11.heap.size w11 W) => ref16_Right ⟨Al_1, nl_1, cl_1, At_1, nt_1, ct_1, Ci_1, ni_1, ci_1, Cb_1, nb_1, cb_1, Ii_1, mi_1, di_1, Ib_1, mb_1, db_1⟩ d1 W ((HA1.out.below hW).more hW.size) HO1.out)
  have C85 := Lib.hid (fun (W : World) (hW : Below w11.heap.size w11 W) => by
    have h := ref_Ints Pa Pb ma qa mb qb la la W ((HIa.out.below hW).more hW.size) ((HIb.out.below hW).more hW.size) hla2
    rw [decide_eq_true rfl] at h
    exact h)
  have C95 := Lib.hid (fun (W : World) (hW : Below w11.heap.size w11 W) => by
    have h := ref_Ints Pg Pi mg qg mi qi lb lb W ((HIg.out.below hW).more hW.size) ((HIi.out.below hW).more hW.size) hlg2
    rw [decide_eq_true rfl] at h
    exact h)
  have C120 := Lib.hid (fun (W : World) (hW : Below w11.heap.size w11 W) => fold_Same ⟨Al_1, nl_1, cl_1, At_1, nt_1, ct_1, Ci_1, ni_1, ci_1, Cb_1, nb_1, cb_1, Ii_1, mi_1, di_1, Ib_1, mb_1, db_1⟩ ⟨Al_2, nl_2, cl_2, At_2, nt_2, ct_2, Ci_2, ni_2, ci_2, Cb_2, nb_2, cb_2, Ii_2, mi_2, di_2, Ib_2, mb_2, db_2⟩ d1 d2 W ((HA1.out.below hW).more hW.size) ((HA2.out.below hW).more hW.size) HO1.out)
  have C123 := Lib.hid (fun (W : World) (hW : Below w11.heap.size w11 W) => ref16_Same ⟨Al_1, nl_1, cl_1, At_1, nt_1, ct_1, Ci_1, ni_1, ci_1, Cb_1, nb_1, cb_1, Ii_1, mi_1, di_1, Ib_1, mb_1, db_1⟩ ⟨Al_2, nl_2, cl_2, At_2, nt_2, ct_2, Ci_2, ni_2, ci_2, Cb_2, nb_2, cb_2, Ii_2, mi_2, di_2, Ib_2, mb_2, db_2⟩ d1 d2 W ((HA1.out.below hW).more hW.size) ((HA2.out.below hW).more hW.size) HO1.out)
  have C129 := Lib.hid (fun (W : World) (hW : Below w11.heap.size w11 W) => by
    have h := fold_Same ⟨Al_1, nl_1, cl_1, At_1, nt_1, ct_1, Ci_1, ni_1, ci_1, Cb_1, nb_1, cb_1, Ii_1, mi_1, di_1, Ib_1, mb_1, db_1⟩ ⟨Al_1, nl_1, cl_1, At_1, nt_1, ct_1, Ci_1, ni_1, ci_1, Cb_1, nb_1, cb_1, Ii_1, mi_1, di_1, Ib_1, mb_1, db_1⟩ d1 d1 W ((HA1.out.below hW).more hW.size) ((HA1.out.below hW).more hW.size) HO1.out
    rw [decide_eq_true rfl] at h
    exact h)
  generalize mapsB d1.lo = bm at *
  generalize rightC d1 = br at *
  generalize decide (d1 = d2) = bs at *
  have l1 := (Array.getElem?_eq_some_iff.1 Hx1.out).1
  have l2 := (Array.getElem?_eq_some_iff.1 Hx2.out).1
  obtain ⟨e0, e1, e2, e3, e4, e5⟩ := cells6 Hx1.out
  obtain ⟨f0, f1, f2, f3, f4, f5⟩ := cells6 Hx2.out
  go_upto_region 10 with fail
  have hq0 : Below w11.heap.size w11 w11.drew := (Below.refl _ _).drew
  refine np_start (S := (fun V => Below w11.heap.size w11 V)) (by kernel_rfl) hq0 (fun hHeld => ?_)
  refine np_take (i := 0) (.bool true) rfl (by kernel_rfl) hHeld (fr1 7 (.bool true) (by kernel_rfl) (fun ρ hρ e0 V hV => by obtain ⟨hc, hg, hf⟩ := hρ; go_simp)) ?_
  refine np_take (i := 1) (.bool true) rfl (by kernel_rfl) hHeld (fr1 65 (.bool true) (by kernel_rfl) (fun ρ hρ e0 V hV => by obtain ⟨hc, hg, hf⟩ := hρ; go_simp)) ?_
  refine np_take (i := 2) (.pointer (some ⟨w.heap.size, 0, none⟩)) rfl (by kernel_rfl) hHeld (fr1 3 (.pointer (some ⟨w.heap.size, 0, none⟩)) (by kernel_rfl) (fun ρ hρ e0 V hV => by obtain ⟨hc, hg, hf⟩ := hρ; go_simp)) ?_
  refine np_take (i := 3) (.slice Al_1 nl_1 cl_1) rfl (by kernel_rfl) hHeld (fr1 67 (.pointer (some ⟨w.heap.size, 0, none⟩)) (by kernel_rfl) (fun ρ hρ e0 V hV => by obtain ⟨hc, hg, hf⟩ := hρ; obtain ⟨c0, c1, c2, c3, c4, c5⟩ := cells6 ((hV.block _ l1).trans Hx1.out); go_simp)) ?_
  refine np_take (i := 5) (.pointer (some ⟨w.heap.size, 0, none⟩)) rfl (by kernel_rfl) hHeld (fr1 3 (.pointer (some ⟨w.heap.size, 0, none⟩)) (by kernel_rfl) (fun ρ hρ e0 V hV => by obtain ⟨hc, hg, hf⟩ := hρ; go_simp)) ?_
  refine np_take (i := 6) (.slice Al_1 nl_1 cl_1) rfl (by kernel_rfl) hHeld (fr1 70 (.pointer (some ⟨w.heap.size, 0, none⟩)) (by kernel_rfl) (fun ρ hρ e0 V hV => by obtain ⟨hc, hg, hf⟩ := hρ; obtain ⟨c0, c1, c2, c3, c4, c5⟩ := cells6 ((hV.block _ l1).trans Hx1.out); go_simp)) ?_
  try simp only [put_laws]
  have hC := C69.out _ hq0
  refine np_call (i := 4) rfl (by kernel_rfl) hHeld (fr1 68 (.slice Al_1 nl_1 cl_1) (by kernel_rfl) (fun ρ hρ e0 V hV => by obtain ⟨hc, hg, hf⟩ := hρ; go_simp; try (first | rfl | exact ⟨rfl, rfl⟩))) (hC.mono ?_)
  clear hC
  rintro e v69 ⟨rfl, hb69⟩
  have hq69 := hq0.trans (hb69.mono hq0.size)
  refine ⟨_, rfl, hq69, fun hHeld => ?_⟩
  have hC := C72.out _ hq69
  refine np_call (i := 7) rfl (by kernel_rfl) hHeld (fr1 71 (.slice Al_1 nl_1 cl_1) (by kernel_rfl) (fun ρ hρ e0 V hV => by obtain ⟨hc, hg, hf⟩ := hρ; go_simp; try (first | rfl | exact ⟨rfl, rfl⟩))) (hC.mono ?_)
  clear hC
  rintro e v72 ⟨rfl, hb72⟩
  have hq72 := hq69.trans (hb72.mono hq69.size)
  refine ⟨_, rfl, hq72, fun hHeld => ?_⟩
  refine np_take (i := 8) (.bool true) rfl (by kernel_rfl) hHeld (fr2 69 72 (.bool bm) (.bool bm) (by kernel_rfl) (fun ρ hρ e0 e1 V hV => by obtain ⟨hc, hg, hf⟩ := hρ; go_simp)) ?_
  refine np_take (i := 9) (.bool true) rfl (by kernel_rfl) hHeld (fr2 66 73 (.bool true) (.bool true) (by kernel_rfl) (fun ρ hρ e0 e1 V hV => by obtain ⟨hc, hg, hf⟩ := hρ; go_simp)) ?_
  refine np_take (i := 10) (.bool true) rfl (by kernel_rfl) hHeld (fr1 74 (.bool true) (by kernel_rfl) (fun ρ hρ e0 V hV => by obtain ⟨hc, hg, hf⟩ := hρ; go_simp)) ?_
  refine np_take (i := 11) (.agg #[.slice Al_1 nl_1 cl_1, .slice At_1 nt_1 ct_1, .slice Ci_1 ni_1 ci_1, .slice Cb_1 nb_1 cb_1, .slice Ii_1 mi_1 di_1, .slice Ib_1 mb_1 db_1]) rfl (by kernel_rfl) hHeld (fr1 3 (.pointer (some ⟨w.heap.size, 0, none⟩)) (by kernel_rfl) (fun ρ hρ e0 V hV => by obtain ⟨hc, hg, hf⟩ := hρ; obtain ⟨c0, c1, c2, c3, c4, c5⟩ := cells6 ((hV.block _ l1).trans Hx1.out); go_simp)) ?_
  try simp only [put_laws]
  refine np_take (i := 13) (.agg #[.slice Al_1 nl_1 cl_1, .slice At_1 nt_1 ct_1, .slice Ci_1 ni_1 ci_1, .slice Cb_1 nb_1 cb_1, .slice Ii_1 mi_1 di_1, .slice Ib_1 mb_1 db_1]) rfl (by kernel_rfl) hHeld (fr1 3 (.pointer (some ⟨w.heap.size, 0, none⟩)) (by kernel_rfl) (fun ρ hρ e0 V hV => by obtain ⟨hc, hg, hf⟩ := hρ; obtain ⟨c0, c1, c2, c3, c4, c5⟩ := cells6 ((hV.block _ l1).trans Hx1.out); go_simp)) ?_
  have hC := C77.out _ hq72
  refine np_call (i := 12) rfl (by kernel_rfl) hHeld (fr1 76 (.agg #[.slice Al_1 nl_1 cl_1, .slice At_1 nt_1 ct_1, .slice Ci_1 ni_1 ci_1, .slice Cb_1 nb_1 cb_1, .slice Ii_1 mi_1 di_1, .slice Ib_1 mb_1 db_1]) (by kernel_rfl) (fun ρ hρ e0 V hV => by obtain ⟨hc, hg, hf⟩ := hρ; go_simp; try (first | rfl | exact ⟨rfl, rfl⟩))) (hC.mono ?_)
  clear hC
  rintro e v77 ⟨rfl, hb77⟩
  have hq77 := hq72.trans (hb77.mono hq72.size)
  refine ⟨_, rfl, hq77, fun hHeld => ?_⟩
  have hC := C79.out _ hq77
  refine np_call (i := 14) rfl (by kernel_rfl) hHeld (fr1 78 (.agg #[.slice Al_1 nl_1 cl_1, .slice At_1 nt_1 ct_1, .slice Ci_1 ni_1 ci_1, .slice Cb_1 nb_1 cb_1, .slice Ii_1 mi_1 di_1, .slice Ib_1 mb_1 db_1]) (by kernel_rfl) (fun ρ hρ e0 V hV => by obtain ⟨hc, hg, hf⟩ := hρ; go_simp; try (first | rfl | exact ⟨rfl, rfl⟩))) (hC.mono ?_)
  clear hC
  rintro e v79 ⟨rfl, hb79⟩
  have hq79 := hq77.trans (hb79.mono hq77.size)
  refine ⟨_, rfl, hq79, fun hHeld => ?_⟩
  refine np_take (i := 15) (.bool true) rfl (by kernel_rfl) hHeld (fr2 77 79 (.bool br) (.bool br) (by kernel_rfl) (fun ρ hρ e0 e1 V hV => by obtain ⟨hc, hg, hf⟩ := hρ; go_simp)) ?_
  refine np_take (i := 16) (.bool true) rfl (by kernel_rfl) hHeld (fr2 75 80 (.bool true) (.bool true) (by kernel_rfl) (fun ρ hρ e0 e1 V hV => by obtain ⟨hc, hg, hf⟩ := hρ; go_simp)) ?_
  refine np_take (i := 17) (.bool true) rfl (by kernel_rfl) hHeld (fr1 81 (.bool true) (by kernel_rfl) (fun ρ hρ e0 V hV => by obtain ⟨hc, hg, hf⟩ := hρ; go_simp)) ?_
  try simp only [put_laws]
  refine np_take (i := 18) (.slice Pa ma qa) rfl (by kernel_rfl) hHeld (fr1 8 (.slice Pa ma qa) (by kernel_rfl) (fun ρ hρ e0 V hV => by obtain ⟨hc, hg, hf⟩ := hρ; go_simp)) ?_
  refine np_take (i := 19) (.slice Pb mb qb) rfl (by kernel_rfl) hHeld (fr1 10 (.slice Pb mb qb) (by kernel_rfl) (fun ρ hρ e0 V hV => by obtain ⟨hc, hg, hf⟩ := hρ; go_simp)) ?_
  have hC := C85.out _ hq79
  refine np_call (i := 20) rfl (by kernel_rfl) hHeld (fr2 83 84 (.slice Pa ma qa) (.slice Pb mb qb) (by kernel_rfl) (fun ρ hρ e0 e1 V hV => by obtain ⟨hc, hg, hf⟩ := hρ; go_simp; try (first | rfl | exact ⟨rfl, rfl⟩))) (hC.mono ?_)
  clear hC
  rintro e v85 ⟨rfl, hb85⟩
  have hq85 := hq79.trans (hb85.mono hq79.size)
  refine ⟨_, rfl, hq85, fun hHeld => ?_⟩
  refine np_take (i := 21) (.bool true) rfl (by kernel_rfl) hHeld (fr2 82 85 (.bool true) (.bool true) (by kernel_rfl) (fun ρ hρ e0 e1 V hV => by obtain ⟨hc, hg, hf⟩ := hρ; go_simp)) ?_
  refine np_take (i := 22) (.bool true) rfl (by kernel_rfl) hHeld (fr1 86 (.bool true) (by kernel_rfl) (fun ρ hρ e0 V hV => by obtain ⟨hc, hg, hf⟩ := hρ; go_simp)) ?_
  refine np_take (i := 23) (.int .i64 ea) rfl (by kernel_rfl) hHeld (fr1 9 (.int .i64 ea) (by kernel_rfl) (fun ρ hρ e0 V hV => by obtain ⟨hc, hg, hf⟩ := hρ; go_simp)) ?_
  try simp only [put_laws]
  refine np_take (i := 24) (.int .i64 ea) rfl (by kernel_rfl) hHeld (fr1 11 (.int .i64 ea) (by kernel_rfl) (fun ρ hρ e0 V hV => by obtain ⟨hc, hg, hf⟩ := hρ; go_simp)) ?_
  refine np_take (i := 25) (.bool true) rfl (by kernel_rfl) hHeld (fr2 88 89 (.int .i64 ea) (.int .i64 ea) (by kernel_rfl) (fun ρ hρ e0 e1 V hV => by obtain ⟨hc, hg, hf⟩ := hρ; go_simp)) ?_
  refine np_take (i := 26) (.bool true) rfl (by kernel_rfl) hHeld (fr2 87 90 (.bool true) (.bool true) (by kernel_rfl) (fun ρ hρ e0 e1 V hV => by obtain ⟨hc, hg, hf⟩ := hρ; go_simp)) ?_
  refine np_take (i := 27) (.bool true) rfl (by kernel_rfl) hHeld (fr1 91 (.bool true) (by kernel_rfl) (fun ρ hρ e0 V hV => by obtain ⟨hc, hg, hf⟩ := hρ; go_simp)) ?_
  refine np_take (i := 28) (.slice Pg mg qg) rfl (by kernel_rfl) hHeld (fr1 12 (.slice Pg mg qg) (by kernel_rfl) (fun ρ hρ e0 V hV => by obtain ⟨hc, hg, hf⟩ := hρ; go_simp)) ?_
  refine np_take (i := 29) (.slice Pi mi qi) rfl (by kernel_rfl) hHeld (fr1 14 (.slice Pi mi qi) (by kernel_rfl) (fun ρ hρ e0 V hV => by obtain ⟨hc, hg, hf⟩ := hρ; go_simp)) ?_
  try simp only [put_laws]
  have hC := C95.out _ hq85
  refine np_call (i := 30) rfl (by kernel_rfl) hHeld (fr2 93 94 (.slice Pg mg qg) (.slice Pi mi qi) (by kernel_rfl) (fun ρ hρ e0 e1 V hV => by obtain ⟨hc, hg, hf⟩ := hρ; go_simp; try (first | rfl | exact ⟨rfl, rfl⟩))) (hC.mono ?_)
  clear hC
  rintro e v95 ⟨rfl, hb95⟩
  have hq95 := hq85.trans (hb95.mono hq85.size)
  refine ⟨_, rfl, hq95, fun hHeld => ?_⟩
  refine np_take (i := 31) (.bool true) rfl (by kernel_rfl) hHeld (fr2 92 95 (.bool true) (.bool true) (by kernel_rfl) (fun ρ hρ e0 e1 V hV => by obtain ⟨hc, hg, hf⟩ := hρ; go_simp)) ?_
  refine np_take (i := 32) (.bool true) rfl (by kernel_rfl) hHeld (fr1 96 (.bool true) (by kernel_rfl) (fun ρ hρ e0 V hV => by obtain ⟨hc, hg, hf⟩ := hρ; go_simp)) ?_
  refine np_take (i := 33) (.int .i64 eb) rfl (by kernel_rfl) hHeld (fr1 13 (.int .i64 eb) (by kernel_rfl) (fun ρ hρ e0 V hV => by obtain ⟨hc, hg, hf⟩ := hρ; go_simp)) ?_
  refine np_take (i := 34) (.int .i64 eb) rfl (by kernel_rfl) hHeld (fr1 15 (.int .i64 eb) (by kernel_rfl) (fun ρ hρ e0 V hV => by obtain ⟨hc, hg, hf⟩ := hρ; go_simp)) ?_
  refine np_take (i := 35) (.bool true) rfl (by kernel_rfl) hHeld (fr2 98 99 (.int .i64 eb) (.int .i64 eb) (by kernel_rfl) (fun ρ hρ e0 e1 V hV => by obtain ⟨hc, hg, hf⟩ := hρ; go_simp)) ?_
  try simp only [put_laws]
  refine np_take (i := 36) (.bool true) rfl (by kernel_rfl) hHeld (fr2 97 100 (.bool true) (.bool true) (by kernel_rfl) (fun ρ hρ e0 e1 V hV => by obtain ⟨hc, hg, hf⟩ := hρ; go_simp)) ?_
  refine np_take (i := 37) (.bool true) rfl (by kernel_rfl) hHeld (fr1 101 (.bool true) (by kernel_rfl) (fun ρ hρ e0 V hV => by obtain ⟨hc, hg, hf⟩ := hρ; go_simp)) ?_
  refine np_take (i := 38) (.bool ka) rfl (by kernel_rfl) hHeld (fr1 16 (.bool ka) (by kernel_rfl) (fun ρ hρ e0 V hV => by obtain ⟨hc, hg, hf⟩ := hρ; go_simp)) ?_
  refine np_take (i := 39) (.bool ka) rfl (by kernel_rfl) hHeld (fr1 19 (.bool ka) (by kernel_rfl) (fun ρ hρ e0 V hV => by obtain ⟨hc, hg, hf⟩ := hρ; go_simp)) ?_
  refine np_take (i := 40) (.bool true) rfl (by kernel_rfl) hHeld (fr2 103 104 (.bool ka) (.bool ka) (by kernel_rfl) (fun ρ hρ e0 e1 V hV => by obtain ⟨hc, hg, hf⟩ := hρ; go_simp)) ?_
  refine np_take (i := 41) (.bool true) rfl (by kernel_rfl) hHeld (fr2 102 105 (.bool true) (.bool true) (by kernel_rfl) (fun ρ hρ e0 e1 V hV => by obtain ⟨hc, hg, hf⟩ := hρ; go_simp)) ?_
  try simp only [put_laws]
  refine np_take (i := 42) (.bool true) rfl (by kernel_rfl) hHeld (fr1 106 (.bool true) (by kernel_rfl) (fun ρ hρ e0 V hV => by obtain ⟨hc, hg, hf⟩ := hρ; go_simp)) ?_
  refine np_take (i := 43) (.bool kb) rfl (by kernel_rfl) hHeld (fr1 17 (.bool kb) (by kernel_rfl) (fun ρ hρ e0 V hV => by obtain ⟨hc, hg, hf⟩ := hρ; go_simp)) ?_
  refine np_take (i := 44) (.bool kb) rfl (by kernel_rfl) hHeld (fr1 20 (.bool kb) (by kernel_rfl) (fun ρ hρ e0 V hV => by obtain ⟨hc, hg, hf⟩ := hρ; go_simp)) ?_
  refine np_take (i := 45) (.bool true) rfl (by kernel_rfl) hHeld (fr2 108 109 (.bool kb) (.bool kb) (by kernel_rfl) (fun ρ hρ e0 e1 V hV => by obtain ⟨hc, hg, hf⟩ := hρ; go_simp)) ?_
  refine np_take (i := 46) (.bool true) rfl (by kernel_rfl) hHeld (fr2 107 110 (.bool true) (.bool true) (by kernel_rfl) (fun ρ hρ e0 e1 V hV => by obtain ⟨hc, hg, hf⟩ := hρ; go_simp)) ?_
  refine np_take (i := 47) (.bool true) rfl (by kernel_rfl) hHeld (fr1 111 (.bool true) (by kernel_rfl) (fun ρ hρ e0 V hV => by obtain ⟨hc, hg, hf⟩ := hρ; go_simp)) ?_
  try simp only [put_laws]
  refine np_take (i := 48) (.int .i64 kc) rfl (by kernel_rfl) hHeld (fr1 18 (.int .i64 kc) (by kernel_rfl) (fun ρ hρ e0 V hV => by obtain ⟨hc, hg, hf⟩ := hρ; go_simp)) ?_
  refine np_take (i := 49) (.int .i64 kc) rfl (by kernel_rfl) hHeld (fr1 21 (.int .i64 kc) (by kernel_rfl) (fun ρ hρ e0 V hV => by obtain ⟨hc, hg, hf⟩ := hρ; go_simp)) ?_
  refine np_take (i := 50) (.bool true) rfl (by kernel_rfl) hHeld (fr2 113 114 (.int .i64 kc) (.int .i64 kc) (by kernel_rfl) (fun ρ hρ e0 e1 V hV => by obtain ⟨hc, hg, hf⟩ := hρ; go_simp)) ?_
  refine np_take (i := 51) (.bool true) rfl (by kernel_rfl) hHeld (fr2 112 115 (.bool true) (.bool true) (by kernel_rfl) (fun ρ hρ e0 e1 V hV => by obtain ⟨hc, hg, hf⟩ := hρ; go_simp)) ?_
  refine np_take (i := 52) (.bool true) rfl (by kernel_rfl) hHeld (fr1 116 (.bool true) (by kernel_rfl) (fun ρ hρ e0 V hV => by obtain ⟨hc, hg, hf⟩ := hρ; go_simp)) ?_
  refine np_take (i := 53) (.agg #[.slice Al_1 nl_1 cl_1, .slice At_1 nt_1 ct_1, .slice Ci_1 ni_1 ci_1, .slice Cb_1 nb_1 cb_1, .slice Ii_1 mi_1 di_1, .slice Ib_1 mb_1 db_1]) rfl (by kernel_rfl) hHeld (fr1 3 (.pointer (some ⟨w.heap.size, 0, none⟩)) (by kernel_rfl) (fun ρ hρ e0 V hV => by obtain ⟨hc, hg, hf⟩ := hρ; obtain ⟨c0, c1, c2, c3, c4, c5⟩ := cells6 ((hV.block _ l1).trans Hx1.out); go_simp)) ?_
  try simp only [put_laws]
  refine np_take (i := 54) (.agg #[.slice Al_2 nl_2 cl_2, .slice At_2 nt_2 ct_2, .slice Ci_2 ni_2 ci_2, .slice Cb_2 nb_2 cb_2, .slice Ii_2 mi_2 di_2, .slice Ib_2 mb_2 db_2]) rfl (by kernel_rfl) hHeld (fr1 4 (.pointer (some ⟨w.heap.size + 1, 0, none⟩)) (by kernel_rfl) (fun ρ hρ e0 V hV => by obtain ⟨hc, hg, hf⟩ := hρ; obtain ⟨c0, c1, c2, c3, c4, c5⟩ := cells6 ((hV.block _ l2).trans Hx2.out); go_simp)) ?_
  refine np_take (i := 56) (.agg #[.slice Al_1 nl_1 cl_1, .slice At_1 nt_1 ct_1, .slice Ci_1 ni_1 ci_1, .slice Cb_1 nb_1 cb_1, .slice Ii_1 mi_1 di_1, .slice Ib_1 mb_1 db_1]) rfl (by kernel_rfl) hHeld (fr1 3 (.pointer (some ⟨w.heap.size, 0, none⟩)) (by kernel_rfl) (fun ρ hρ e0 V hV => by obtain ⟨hc, hg, hf⟩ := hρ; obtain ⟨c0, c1, c2, c3, c4, c5⟩ := cells6 ((hV.block _ l1).trans Hx1.out); go_simp)) ?_
  refine np_take (i := 57) (.agg #[.slice Al_2 nl_2 cl_2, .slice At_2 nt_2 ct_2, .slice Ci_2 ni_2 ci_2, .slice Cb_2 nb_2 cb_2, .slice Ii_2 mi_2 di_2, .slice Ib_2 mb_2 db_2]) rfl (by kernel_rfl) hHeld (fr1 4 (.pointer (some ⟨w.heap.size + 1, 0, none⟩)) (by kernel_rfl) (fun ρ hρ e0 V hV => by obtain ⟨hc, hg, hf⟩ := hρ; obtain ⟨c0, c1, c2, c3, c4, c5⟩ := cells6 ((hV.block _ l2).trans Hx2.out); go_simp)) ?_
  have hC := C120.out _ hq95
  refine np_call (i := 55) rfl (by kernel_rfl) hHeld (fr2 118 119 (.agg #[.slice Al_1 nl_1 cl_1, .slice At_1 nt_1 ct_1, .slice Ci_1 ni_1 ci_1, .slice Cb_1 nb_1 cb_1, .slice Ii_1 mi_1 di_1, .slice Ib_1 mb_1 db_1]) (.agg #[.slice Al_2 nl_2 cl_2, .slice At_2 nt_2 ct_2, .slice Ci_2 ni_2 ci_2, .slice Cb_2 nb_2 cb_2, .slice Ii_2 mi_2 di_2, .slice Ib_2 mb_2 db_2]) (by kernel_rfl) (fun ρ hρ e0 e1 V hV => by obtain ⟨hc, hg, hf⟩ := hρ; go_simp; try (first | rfl | exact ⟨rfl, rfl⟩))) (hC.mono ?_)
  clear hC
  rintro e v120 ⟨rfl, hb120⟩
  have hq120 := hq95.trans (hb120.mono hq95.size)
  refine ⟨_, rfl, hq120, fun hHeld => ?_⟩
  have hC := C123.out _ hq120
  refine np_call (i := 58) rfl (by kernel_rfl) hHeld (fr2 121 122 (.agg #[.slice Al_1 nl_1 cl_1, .slice At_1 nt_1 ct_1, .slice Ci_1 ni_1 ci_1, .slice Cb_1 nb_1 cb_1, .slice Ii_1 mi_1 di_1, .slice Ib_1 mb_1 db_1]) (.agg #[.slice Al_2 nl_2 cl_2, .slice At_2 nt_2 ct_2, .slice Ci_2 ni_2 ci_2, .slice Cb_2 nb_2 cb_2, .slice Ii_2 mi_2 di_2, .slice Ib_2 mb_2 db_2]) (by kernel_rfl) (fun ρ hρ e0 e1 V hV => by obtain ⟨hc, hg, hf⟩ := hρ; go_simp; try (first | rfl | exact ⟨rfl, rfl⟩))) (hC.mono ?_)
  clear hC
  rintro e v123 ⟨rfl, hb123⟩
  have hq123 := hq120.trans (hb123.mono hq120.size)
  refine ⟨_, rfl, hq123, fun hHeld => ?_⟩
  refine np_take (i := 59) (.bool true) rfl (by kernel_rfl) hHeld (fr2 120 123 (.bool bs) (.bool bs) (by kernel_rfl) (fun ρ hρ e0 e1 V hV => by obtain ⟨hc, hg, hf⟩ := hρ; go_simp)) ?_
  try simp only [put_laws]
  refine np_take (i := 60) (.bool true) rfl (by kernel_rfl) hHeld (fr2 117 124 (.bool true) (.bool true) (by kernel_rfl) (fun ρ hρ e0 e1 V hV => by obtain ⟨hc, hg, hf⟩ := hρ; go_simp)) ?_
  refine np_take (i := 61) (.bool true) rfl (by kernel_rfl) hHeld (fr1 125 (.bool true) (by kernel_rfl) (fun ρ hρ e0 V hV => by obtain ⟨hc, hg, hf⟩ := hρ; go_simp)) ?_
  refine np_take (i := 62) (.agg #[.slice Al_1 nl_1 cl_1, .slice At_1 nt_1 ct_1, .slice Ci_1 ni_1 ci_1, .slice Cb_1 nb_1 cb_1, .slice Ii_1 mi_1 di_1, .slice Ib_1 mb_1 db_1]) rfl (by kernel_rfl) hHeld (fr1 3 (.pointer (some ⟨w.heap.size, 0, none⟩)) (by kernel_rfl) (fun ρ hρ e0 V hV => by obtain ⟨hc, hg, hf⟩ := hρ; obtain ⟨c0, c1, c2, c3, c4, c5⟩ := cells6 ((hV.block _ l1).trans Hx1.out); go_simp)) ?_
  refine np_take (i := 63) (.agg #[.slice Al_1 nl_1 cl_1, .slice At_1 nt_1 ct_1, .slice Ci_1 ni_1 ci_1, .slice Cb_1 nb_1 cb_1, .slice Ii_1 mi_1 di_1, .slice Ib_1 mb_1 db_1]) rfl (by kernel_rfl) hHeld (fr1 3 (.pointer (some ⟨w.heap.size, 0, none⟩)) (by kernel_rfl) (fun ρ hρ e0 V hV => by obtain ⟨hc, hg, hf⟩ := hρ; obtain ⟨c0, c1, c2, c3, c4, c5⟩ := cells6 ((hV.block _ l1).trans Hx1.out); go_simp)) ?_
  have hC := C129.out _ hq123
  refine np_call (i := 64) rfl (by kernel_rfl) hHeld (fr2 127 128 (.agg #[.slice Al_1 nl_1 cl_1, .slice At_1 nt_1 ct_1, .slice Ci_1 ni_1 ci_1, .slice Cb_1 nb_1 cb_1, .slice Ii_1 mi_1 di_1, .slice Ib_1 mb_1 db_1]) (.agg #[.slice Al_1 nl_1 cl_1, .slice At_1 nt_1 ct_1, .slice Ci_1 ni_1 ci_1, .slice Cb_1 nb_1 cb_1, .slice Ii_1 mi_1 di_1, .slice Ib_1 mb_1 db_1]) (by kernel_rfl) (fun ρ hρ e0 e1 V hV => by obtain ⟨hc, hg, hf⟩ := hρ; go_simp; try (first | rfl | exact ⟨rfl, rfl⟩))) (hC.mono ?_)
  clear hC
  rintro e v129 ⟨rfl, hb129⟩
  have hq129 := hq123.trans (hb129.mono hq123.size)
  refine ⟨_, rfl, hq129, fun hHeld => ?_⟩
  refine np_take (i := 65) (.bool true) rfl (by kernel_rfl) hHeld (fr2 126 129 (.bool true) (.bool true) (by kernel_rfl) (fun ρ hρ e0 e1 V hV => by obtain ⟨hc, hg, hf⟩ := hρ; go_simp)) ?_
  try simp only [put_laws]
  refine np_take (i := 66) (.bool true) rfl (by kernel_rfl) hHeld (fr1 130 (.bool true) (by kernel_rfl) (fun ρ hρ e0 V hV => by obtain ⟨hc, hg, hf⟩ := hρ; go_simp)) ?_
  refine np_fin (s := 6) (V := .bool true) (by kernel_rfl) (by kernel_rfl) (by kernel_rfl) fun bq hbv hbd => ?_
  go_wp2_with fail
  exact bodyPost_ret (v := .bool true) (by have h := hbv; simp at h; simp [results, Tryz.results4, go_sem, h]) hbd ⟨rfl, Hbw.out.trans (hq129.mono Hbw.out.size)⟩
end Go.Vir


/- For any two cases and number: which cases are right, which are the same, what a scalar becomes, of which kind it is, is what the document says. (The listed variables are tied to the text.) -/
namespace Go.Proofs.YtkkpkcnlocmnhaaGreatDoor
open Go Go.Vir Go.RowKit Go.Proofs Go.ChangeShapes Go.WideShapes Go.ChangeAt

set_option maxHeartbeats 800000 in
set_option maxRecDepth 100000 in
theorem tells_lifted (os : Os) (started : os.Started) (H : Type) (enc : TypeId × Value → H) :
    ReturnsInHanded {} Tryz.checked os 4 .any (fun w args => (Rows.foldTellsSpec.pre enc Tryz.prog Tryz.f4 [] false w args ∧ laidMetH Tryz.prog laidF w) ∧ sizedMet enc Tryz.prog Tryz.f4 (OpenSpec.ofChange Rows.foldTellsSpec) false w args)
      (Rows.foldTellsSpec.post enc Tryz.prog Tryz.f4 false true false false) := by
  refine returns_shaped (C := Tryz.checked) (X := fun w _ => laidMetH Tryz.prog laidF w) (fun _ _ _ hh h => h.of_heap hh) own started (by kernel_rfl) Tryz.func4
    (ChangeSpec.witness_shaped (enc := enc) (C := Tryz.checked) (os := os) (X := fun w _ => laidMetH Tryz.prog laidF w) false (worldF os) #[.agg #[.slice none 0 0, .slice none 0 0, .slice none 0 0, .slice none 0 0, .slice none 0 0, .slice none 0 0], .agg #[.slice none 0 0, .slice none 0 0, .slice none 0 0, .slice none 0 0, .slice none 0 0, .slice none 0 0], .int .i64 0] 8 (worldF_os os) (worldF_shaped os) (by kernel_rfl) (by kernel_rfl) (by kernel_rfl) (worldF_met os _)) ?_
  intro W base args ds gs before hval0 hW hsh hL
  have hval : ∀ (j : Nat) t v, Tryz.f4.params[j]? = some t → args[j]? = some v → Value.okWide Tryz.prog W .any base t v := hval0
  have hW' := hW
  obtain ⟨p, q, hA0, hV, rfl, _, _⟩ := hW
  have hA : DataW.TrodAll enc Tryz.prog W 0 (fun _ => true) true Tryz.f4.params.toList args.toList ds p := hA0
  rw [Tryz.params4] at hA hval
  obtain ⟨v0, v1, v2, d0, d1, d2, p0, p1, p2, rfl, rfl, rfl, h0, h1, h2⟩ := trodAll_three hA
  obtain ⟨rfl, rfl⟩ := trodVars_none hV
  have hlt : ∀ x ∈ p0 ++ p1 ++ p2, x.block < W.heap.size := fun x hx => by simpa using hW'.lt x (by simpa using hx)
  have hargs : ∀ (W' : World), Below W.heap.size W W' → DataW.TrodAll enc Tryz.prog W' 0 (fun b => decide (b < W.heap.size)) true #[29, 29, 3].toList #[v0, v1, v2].toList [d0, d1, d2] (p0 ++ (p1 ++ p2)) := fun W' hn =>
    trodAll_mk3 (Below.trod laidOut (by kernel_rfl) (of_decide_eq_true (by kernel_rfl)) h0 hn (fun x hx => hlt x (by simp [hx]))) (Below.trod laidOut (by kernel_rfl) (of_decide_eq_true (by kernel_rfl)) h1 hn (fun x hx => hlt x (by simp [hx]))) (Below.trod laidOut (by kernel_rfl) (of_decide_eq_true (by kernel_rfl)) h2 hn (fun x hx => hlt x (by simp [hx])))
  have hG := globF_of_laid hsh hL
  have key : Calls Tryz.prog 4 #[v0, v1, v2] W fun e W' => e = .returned (.bool true) ∧ Below W.heap.size W W' := by
    obtain ⟨a, c, rfl, hC, hS⟩ := open_cases (hval 0 29 v0 rfl rfl) h0
    obtain ⟨a2, c2, rfl, hC2, hS2⟩ := open_cases (hval 1 29 v1 rfl rfl) h1
    obtain ⟨k, rfl, _, _, _⟩ := open_int Tryz.underlying3 (hval 2 3 v2 rfl rfl) h2
    exact law_foldtells a c a2 c2 k W hG hC hS hC2 hS2
  refine key.mono fun e W' ⟨he, hn⟩ => ?_
  subst he
  exact ⟨_, rfl, _, _, _, [], _, [], hW', trodAll_mk1 (shut_bool Tryz.underlying4 true), hargs _ hn, rfl, hn.frame _, fun h => by cases h⟩

set_option maxRecDepth 100000 in
set_option maxHeartbeats 4000000 in
theorem tells_closed : joinedFacts Tryz.prog 4 Tryz.f4 Rows.foldTellsSpec Rows.foldTellsRow = true := by
  unfold joinedFacts
  repeat' (with_reducible apply and_mk)
  all_goals as_aux_lemma => kernel_rfl
set_option maxHeartbeats 4000000 in
theorem tells_holds : Rows.FoldTellsSaid :=
  OpenClaim.holds_of_wide 4 Tryz.f4 rfl rfl rfl rfl rfl rfl rfl ⟨rfl, rfl, rfl, rfl, rfl⟩ rfl rfl rfl rfl rfl (by kernel_rfl) Tryz.func4 tells_closed
    (of_decide_eq_true (by kernel_rfl)) (by unfold Func.isWrapper; first | (rw [if_pos (by decide +kernel)]; kernel_rfl) | (rw [if_neg (by decide +kernel)]; exact ⟨rfl, rfl⟩))
    (fun os started H enc _ => tells_lifted os started H enc)

theorem tells_card : Rows.FoldTellsCardSaid :=
  Claim7.holds_tied_plain_at .later [] [.data, .handle, .sentinel, .sentinel, .sentinel, .pinned] true (true, "08942af07d3c0529139690b31d68eabedf75f34472facae7435627b8cc8bdd57") true
    tells_holds (fun _ h => by cases h) (by kernel_rfl) (fun _ h => by cases h) foldTells_row_tie rfl ⟨rfl, rfl⟩ (by kernel_rfl) rfl
    (fun f fn hf hfn => by
      obtain rfl : f = 4 := Option.some.inj ((show Tryz.prog.funcNamed "virama/viramalaw16.FoldTells" = some 4 by kernel_rfl).symm.trans hf) |>.symm
      obtain rfl : fn = Tryz.f4 := (Option.some.inj (Tryz.func4.symm.trans hfn)).symm
      exact ⟨by kernel_rfl, fun j t ht => by
        rw [Tryz.params4] at ht
        have hm : t ∈ [29, 29, 3] := by simpa using Array.mem_of_getElem? ht
        have hall : ([29, 29, 3].all fun u => !Tryz.prog.wantsStandIn u) = true := by kernel_rfl
        exact (show Tryz.prog.wantsStandIn t = false by simpa using List.all_eq_true.1 hall t hm)⟩)
    (by kernel_rfl)
#print axioms tells_card
end Go.Proofs.YtkkpkcnlocmnhaaGreatDoor

