/- For every cases and number: a scalar becomes at most three scalars. (The listed variables are tied to the text.) -/
import Derived.Test.YtfbgcoeialdhhaaGreatDoorHn
import Derived.Test.YtfbgcoeialdhhaaGreatDoorHb
import Derived.Test.YtfbgcoeialdhhaaGreatDoorHm
import Derived.Test.YtfbgcoeialdhhaaGreatDoorHo
import Derived.Test.YtfbgcoeialdhhaaGreatDoorHd
import Derived.Test.YtfbgcoeialdhhaaGreatDoorTie
import Derived.Test.YtfbgcoeialdhhaaGreatDoorCards
import Derived.StillTailTactics
import Derived.Deep.RegionHeld3
import Derived.Deep.Strs
import Derived.SliceStrings
import Derived.ChangeMaps5
namespace Go.Vir
open Go Go.RowKit Go.Proofs Go.Shelf
attribute [local go_sem] Oper.semAt_some

set_option maxRecDepth 100000 in
set_option maxHeartbeats 8000000 in
theorem law_foldthree (a7 : CasA) (c7 : CasV) (r : Int) (w : World) (hG : GlobP w) (hC7 : CasW w w.heap.size a7 c7) (hS7 : CasS a7 c7) :
    Calls Tryz.prog 9 #[a7.val, .int .i64 r] w fun e w' => e = .returned (.bool true) ∧ Below w.heap.size w w' := by
  obtain ⟨Al_7, nl_7, cl_7, At_7, nt_7, ct_7, Ci_7, ni_7, ci_7, Cb_7, nb_7, cb_7, Ii_7, mi_7, di_7, Ib_7, mb_7, db_7⟩ := a7
  simp only [CasA.val, CasA.cs]
  obtain ⟨W0, hW0⟩ : ∃ W0, W0 = (w.alloc (.cells #[.slice Al_7 nl_7 cl_7, .slice At_7 nt_7 ct_7, .slice Ci_7 ni_7 ci_7, .slice Cb_7 nb_7 cb_7, .slice Ii_7 mi_7 di_7, .slice Ib_7 mb_7 db_7] 29)) := ⟨_, rfl⟩
  have hbw0 : Below w.heap.size w W0 := by rw [hW0]; go_grown
  have Hx7 := Lib.hid (show W0.heap[w.heap.size]? = some (.cells #[.slice Al_7 nl_7 cl_7, .slice At_7 nt_7 ct_7, .slice Ci_7 ni_7 ci_7, .slice Cb_7 nb_7 cb_7, .slice Ii_7 mi_7 di_7, .slice Ib_7 mb_7 db_7] 29 (0, 0)) from (by rw [hW0]; simp (disch := (first | omega | (simp only [World.size_alloc]; done) | (simp only [World.size_alloc]; omega))) only [heap_laws]))
  have H0 := Lib.hid (law16_shown W0 (hG.below hbw0))
  have HG := Lib.hid hG
  have Hbw := Lib.hid hbw0
  have HC7 := Lib.hid hC7
  have HS7 := Lib.hid hS7
  clear hG hbw0 hC7 hS7
  go_enter Tryz.func9, Tryz.ntmps9
  go_upto_region 1 with fail
  rw [← hW0]
  clear hW0
  go_wp2_with fail
  refine H0.out.mono ?_
  clear H0
  rintro e w1 ⟨rfl, hb⟩
  replace Hbw := Lib.hid (Hbw.out.trans (hb.mono Hbw.out.size))
  replace Hx7 := Lib.hid ((hb.block _ (Array.getElem?_eq_some_iff.1 Hx7.out).1).trans Hx7.out)
  clear hb
  have hsz1 : w.heap.size < w1.heap.size := (Array.getElem?_eq_some_iff.1 Hx7.out).1
  go_upto_region 2 with fail
  obtain ⟨f0_7, f1_7, f2_7, f3_7, f4_7, f5_7⟩ := cells6 Hx7.out
  have h := law16_Table w.heap.size ⟨Al_7, nl_7, cl_7, At_7, nt_7, ct_7, Ci_7, ni_7, ci_7, Cb_7, nb_7, cb_7, Ii_7, mi_7, di_7, Ib_7, mb_7, db_7⟩ c7 w1 (HC7.out.below Hbw.out) Hbw.out.size HS7.out
  have H := Lib.hid h
  clear h
  go_wp2_with fail
  refine H.out.mono ?_
  clear H
  clear f0_7 f1_7 f2_7 f3_7 f4_7 f5_7
  rintro e w2 ⟨⟨A, rfl, hF⟩, hb⟩
  obtain ⟨Al_1, nl_1, cl_1, At_1, nt_1, ct_1, Ci_1, ni_1, ci_1, Cb_1, nb_1, cb_1, Ii_1, mi_1, di_1, Ib_1, mb_1, db_1⟩ := A
  simp only [CasA.val, CasA.cs]
  have d6 := (hb.block _ (Array.getElem?_eq_some_iff.1 Hx7.out).1).trans Hx7.out
  have hbw2 := Hbw.out.trans (hb.mono Hbw.out.size)
  obtain ⟨g1, g2, g3, g4⟩ := six_stored (.slice Al_1 nl_1 cl_1) (.slice At_1 nt_1 ct_1) (.slice Ci_1 ni_1 ci_1) (.slice Cb_1 nb_1 cb_1) (.slice Ii_1 mi_1 di_1) (.slice Ib_1 mb_1 db_1) d6 hbw2 (show w.heap.size ≤ w.heap.size by omega)
  obtain ⟨i0, i1, i2, i3, i4, i5⟩ := cells6 d6
  have s0 := frozen_blk d6 0
  have s1 := frozen_blk d6 1
  have s2 := frozen_blk d6 2
  have s3 := frozen_blk d6 3
  have s4 := frozen_blk d6 4
  have s5 := frozen_blk d6 5
  obtain ⟨w3, hW⟩ : ∃ W, W = (((((w2.setCell ⟨w.heap.size, 0, none⟩ (.slice Al_1 nl_1 cl_1)).setCell ⟨w.heap.size, 1, none⟩ (.slice At_1 nt_1 ct_1)).setCell ⟨w.heap.size, 2, none⟩ (.slice Ci_1 ni_1 ci_1)).setCell ⟨w.heap.size, 3, none⟩ (.slice Cb_1 nb_1 cb_1)).setCell ⟨w.heap.size, 4, none⟩ (.slice Ii_1 mi_1 di_1)).setCell ⟨w.heap.size, 5, none⟩ (.slice Ib_1 mb_1 db_1) := ⟨_, rfl⟩
  rw [← hW] at g1 g2 g3 g4
  have hF3 := hF.keep (Nat.le_of_eq g4.symm) (fun k hk => g3 k (by omega)) (fun k hk _ => g3 k (by omega))
  have HA1 := Lib.hid (hF3.cas g2.size)
  have HO1 := Lib.hid (tab_ok hF3)
  replace Hbw := Lib.hid g2
  replace Hx7 := Lib.hid g1
  clear g1 g2 g3 g4 d6 hbw2 hb hF hF3
  go_upto_region 3 with fail
  rw [← hW]
  clear hW i0 i1 i2 i3 i4 i5 s0 s1 s2 s3 s4 s5
  have Hx1 := Lib.hid Hx7.out
  clear Hx7
  generalize tabC c7 = d1 at *
  clear HC7 HS7
  by_cases hk : chkC d1 r = 0
  rotate_left
  · have e1 : (chkC d1 r != 0) = true := by simpa using hk
    obtain ⟨p1, p2, _⟩ := low_bad hk
    go_upto_region 3 with fail
    obtain ⟨f0_1, f1_1, f2_1, f3_1, f4_1, f5_1⟩ := cells6 Hx1.out
    have h := fold_Lower ⟨Al_1, nl_1, cl_1, At_1, nt_1, ct_1, Ci_1, ni_1, ci_1, Cb_1, nb_1, cb_1, Ii_1, mi_1, di_1, Ib_1, mb_1, db_1⟩ d1 r w3 HA1.out HO1.out
    rw [p1] at h
    have H := Lib.hid h
    clear h
    clear p1 hk
    go_wp2_with fail
    refine H.out.mono ?_
    clear H
    clear f0_1 f1_1 f2_1 f3_1 f4_1 f5_1
    rintro e w4 ⟨⟨P, m, q, rfl, _, hI⟩, hb⟩
    dsimp only at hI ⊢
    obtain rfl : m = 0 := hI.len.symm
    clear hI
    replace Hbw := Lib.hid (Hbw.out.trans (hb.mono Hbw.out.size))
    replace Hx1 := Lib.hid ((hb.block _ (Array.getElem?_eq_some_iff.1 Hx1.out).1).trans Hx1.out)
    replace HA1 := Lib.hid ((HA1.out.below hb).more hb.size)
    clear hb
    go_upto_region 4 with fail
    obtain ⟨f0_1, f1_1, f2_1, f3_1, f4_1, f5_1⟩ := cells6 Hx1.out
    have h := fold_Title ⟨Al_1, nl_1, cl_1, At_1, nt_1, ct_1, Ci_1, ni_1, ci_1, Cb_1, nb_1, cb_1, Ii_1, mi_1, di_1, Ib_1, mb_1, db_1⟩ d1 r w4 HA1.out HO1.out
    rw [p2] at h
    have H := Lib.hid h
    clear h
    clear p2
    go_wp2_with fail
    refine H.out.mono ?_
    clear H
    clear f0_1 f1_1 f2_1 f3_1 f4_1 f5_1
    rintro e w5 ⟨⟨P2, m2, q2, rfl, _, hI⟩, hb⟩
    dsimp only at hI ⊢
    obtain rfl : m2 = 0 := hI.len.symm
    clear hI
    replace Hbw := Lib.hid (Hbw.out.trans (hb.mono Hbw.out.size))
    replace Hx1 := Lib.hid ((hb.block _ (Array.getElem?_eq_some_iff.1 Hx1.out).1).trans Hx1.out)
    replace HA1 := Lib.hid ((HA1.out.below hb).more hb.size)
    clear hb
    generalize chkC d1 r = ce at *
    go_wp2_with fail
    go_ret
    exact ⟨rfl, Hbw.out⟩
  · have hlow : lowC d1 r = (becM d1.lo r, 0) := by unfold lowC; rw [if_pos hk]
    have htit : titC d1 r = (becM d1.ti r, 0) := by unfold titC; rw [if_pos hk]
    obtain ⟨v1, v2⟩ := three_law hk
    unfold allM at v1 v2
    simp only [Bool.and_eq_true, decide_eq_true_eq] at v1 v2
    obtain ⟨v1, v3⟩ := v1
    obtain ⟨v2, v4⟩ := v2
    clear hk
    go_upto_region 3 with fail
    obtain ⟨f0_1, f1_1, f2_1, f3_1, f4_1, f5_1⟩ := cells6 Hx1.out
    have h := fold_Lower ⟨Al_1, nl_1, cl_1, At_1, nt_1, ct_1, Ci_1, ni_1, ci_1, Cb_1, nb_1, cb_1, Ii_1, mi_1, di_1, Ib_1, mb_1, db_1⟩ d1 r w3 HA1.out HO1.out
    rw [hlow] at h
    have H := Lib.hid h
    clear h
    clear hlow
    go_wp2_with fail
    refine H.out.mono ?_
    clear H
    clear f0_1 f1_1 f2_1 f3_1 f4_1 f5_1
    rintro e w4 ⟨⟨P, m, q, rfl, _, hI⟩, hb⟩
    dsimp only at hI ⊢
    have hm : m ≤ 3 := by have := hI.len; omega
    have HI := Lib.hid hI
    clear hI
    replace Hbw := Lib.hid (Hbw.out.trans (hb.mono Hbw.out.size))
    replace Hx1 := Lib.hid ((hb.block _ (Array.getElem?_eq_some_iff.1 Hx1.out).1).trans Hx1.out)
    replace HA1 := Lib.hid ((HA1.out.below hb).more hb.size)
    clear hb
    go_upto_region 4 with fail
    obtain ⟨f0_1, f1_1, f2_1, f3_1, f4_1, f5_1⟩ := cells6 Hx1.out
    have h := fold_Title ⟨Al_1, nl_1, cl_1, At_1, nt_1, ct_1, Ci_1, ni_1, ci_1, Cb_1, nb_1, cb_1, Ii_1, mi_1, di_1, Ib_1, mb_1, db_1⟩ d1 r w4 HA1.out HO1.out
    rw [htit] at h
    have H := Lib.hid h
    clear h
    clear htit
    go_wp2_with fail
    refine H.out.mono ?_
    clear H
    clear f0_1 f1_1 f2_1 f3_1 f4_1 f5_1
    rintro e w5 ⟨⟨P2, m2, q2, rfl, _, hI⟩, hb⟩
    dsimp only at hI ⊢
    have hm2 : m2 ≤ 3 := by have := hI.len; omega
    have HI2 := Lib.hid hI
    clear hI
    replace Hbw := Lib.hid (Hbw.out.trans (hb.mono Hbw.out.size))
    replace Hx1 := Lib.hid ((hb.block _ (Array.getElem?_eq_some_iff.1 Hx1.out).1).trans Hx1.out)
    replace HA1 := Lib.hid ((HA1.out.below hb).more hb.size)
    replace HI := Lib.hid ((HI.out.below hb).more hb.size)
    clear hb
    clear v3 v4
    have V1 := Lib.hid v1
    have V2 := Lib.hid v2
    clear v1 v2
    go_upto_region 7 with fail
    have h := scalar_Text P m q (becM d1.lo r) w5 HI.out (by omega) V1.out
    have H := Lib.hid h
    clear h
    go_wp2_with fail
    refine H.out.mono ?_
    clear H
    rintro e w6 ⟨⟨sa, rfl⟩, hb⟩
    replace Hbw := Lib.hid (Hbw.out.trans (hb.mono Hbw.out.size))
    replace Hx1 := Lib.hid ((hb.block _ (Array.getElem?_eq_some_iff.1 Hx1.out).1).trans Hx1.out)
    replace HA1 := Lib.hid ((HA1.out.below hb).more hb.size)
    replace HI := Lib.hid ((HI.out.below hb).more hb.size)
    replace HI2 := Lib.hid ((HI2.out.below hb).more hb.size)
    clear hb
    go_upto_region 8 with fail
    have h := scalar_Text P2 m2 q2 (becM d1.ti r) w6 HI2.out (by omega) V2.out
    have H := Lib.hid h
    clear h
    go_wp2_with fail
    refine H.out.mono ?_
    clear H
    rintro e w7 ⟨⟨sb, rfl⟩, hb⟩
    replace Hbw := Lib.hid (Hbw.out.trans (hb.mono Hbw.out.size))
    replace Hx1 := Lib.hid ((hb.block _ (Array.getElem?_eq_some_iff.1 Hx1.out).1).trans Hx1.out)
    replace HA1 := Lib.hid ((HA1.out.below hb).more hb.size)
    replace HI := Lib.hid ((HI.out.below hb).more hb.size)
    replace HI2 := Lib.hid ((HI2.out.below hb).more hb.size)
    clear hb
    have g1 : decide ((m : Int) ≤ 3) = true := decide_eq_true (by omega)
    have g2 : decide ((m2 : Int) ≤ 3) = true := decide_eq_true (by omega)
    go_wp2_with fail
    go_ret
    exact ⟨rfl, Hbw.out⟩
end Go.Vir


/- For every cases and number: a scalar becomes at most three scalars. (The listed variables are tied to the text.) -/
namespace Go.Proofs.YtfbgcoeialdhhaaGreatDoor
open Go Go.Vir Go.RowKit Go.Proofs Go.ChangeShapes Go.WideShapes Go.ChangeAt

set_option maxHeartbeats 800000 in
set_option maxRecDepth 100000 in
theorem three_lifted (os : Os) (started : os.Started) (H : Type) (enc : TypeId × Value → H) :
    ReturnsInHanded {} Tryz.checked os 9 .any (fun w args => (Rows.foldThreeSpec.pre enc Tryz.prog Tryz.f9 [] false w args ∧ laidMetH Tryz.prog laidT w) ∧ sizedMet enc Tryz.prog Tryz.f9 (OpenSpec.ofChange Rows.foldThreeSpec) false w args)
      (Rows.foldThreeSpec.post enc Tryz.prog Tryz.f9 false true false false) := by
  refine returns_shaped (C := Tryz.checked) (X := fun w _ => laidMetH Tryz.prog laidT w) (fun _ _ _ hh h => h.of_heap hh) own started (by kernel_rfl) Tryz.func9
    (ChangeSpec.witness_shaped (enc := enc) (C := Tryz.checked) (os := os) (X := fun w _ => laidMetH Tryz.prog laidT w) false (worldT os) #[.agg #[.slice none 0 0, .slice none 0 0, .slice none 0 0, .slice none 0 0, .slice none 0 0, .slice none 0 0], .int .i64 0] 8 (worldT_os os) (worldT_shaped os) (by kernel_rfl) (by kernel_rfl) (by kernel_rfl) (worldT_met os _)) ?_
  intro W base args ds gs before hval0 hW hsh hL
  have hval : ∀ (j : Nat) t v, Tryz.f9.params[j]? = some t → args[j]? = some v → Value.okWide Tryz.prog W .any base t v := hval0
  have hW' := hW
  obtain ⟨p, q, hA0, hV, rfl, _, _⟩ := hW
  have hA : DataW.TrodAll enc Tryz.prog W 0 (fun _ => true) true Tryz.f9.params.toList args.toList ds p := hA0
  rw [Tryz.params9] at hA hval
  obtain ⟨v0, v1, d0, d1, p0, p1, rfl, rfl, rfl, h0, h1⟩ := trodAll_two hA
  obtain ⟨rfl, rfl⟩ := trodVars_none hV
  have hlt : ∀ x ∈ p0 ++ p1, x.block < W.heap.size := fun x hx => by simpa using hW'.lt x (by simpa using hx)
  have hargs : ∀ (W' : World), Below W.heap.size W W' → DataW.TrodAll enc Tryz.prog W' 0 (fun b => decide (b < W.heap.size)) true #[29, 3].toList #[v0, v1].toList [d0, d1] (p0 ++ p1) := fun W' hn =>
    trodAll_mk2 (Below.trod laidOut (by kernel_rfl) (of_decide_eq_true (by kernel_rfl)) h0 hn (fun x hx => hlt x (by simp [hx]))) (Below.trod laidOut (by kernel_rfl) (of_decide_eq_true (by kernel_rfl)) h1 hn (fun x hx => hlt x (by simp [hx])))
  have hG := globT_of_laid hsh hL
  have key : Calls Tryz.prog 9 #[v0, v1] W fun e W' => e = .returned (.bool true) ∧ Below W.heap.size W W' := by
    obtain ⟨a, c, rfl, hC, hS⟩ := open_cases (hval 0 29 v0 rfl rfl) h0
    obtain ⟨k, rfl, _, _, _⟩ := open_int Tryz.underlying3 (hval 1 3 v1 rfl rfl) h1
    exact law_foldthree a c k W hG hC hS
  refine key.mono fun e W' ⟨he, hn⟩ => ?_
  subst he
  exact ⟨_, rfl, _, _, _, [], _, [], hW', trodAll_mk1 (shut_bool Tryz.underlying4 true), hargs _ hn, rfl, hn.frame _, fun h => by cases h⟩

set_option maxRecDepth 100000 in
set_option maxHeartbeats 4000000 in
theorem three_closed : joinedFacts Tryz.prog 9 Tryz.f9 Rows.foldThreeSpec Rows.foldThreeRow = true := by
  unfold joinedFacts
  repeat' (with_reducible apply and_mk)
  all_goals as_aux_lemma => kernel_rfl
set_option maxHeartbeats 4000000 in
theorem three_holds : Rows.FoldThreeSaid :=
  OpenClaim.holds_of_wide 9 Tryz.f9 rfl rfl rfl rfl rfl rfl rfl ⟨rfl, rfl, rfl, rfl, rfl⟩ rfl rfl rfl rfl rfl (by kernel_rfl) Tryz.func9 three_closed
    (of_decide_eq_true (by kernel_rfl)) (by unfold Func.isWrapper; first | (rw [if_pos (by decide +kernel)]; kernel_rfl) | (rw [if_neg (by decide +kernel)]; exact ⟨rfl, rfl⟩))
    (fun os started H enc _ => three_lifted os started H enc)

theorem three_card : Rows.FoldThreeCardSaid :=
  Claim7.holds_tied_plain_at .later [] [.data, .handle, .sentinel, .sentinel, .sentinel, .sentinel, .sentinel, .pinned] true (true, "8a3d459157c03a40dede506b41f2d01909352594c40e7c19881fac7cd10dec03") true
    three_holds (fun _ h => by cases h) (by kernel_rfl) (fun _ h => by cases h) foldThree_row_tie rfl ⟨rfl, rfl⟩ (by kernel_rfl) rfl
    (fun f fn hf hfn => by
      obtain rfl : f = 9 := Option.some.inj ((show Tryz.prog.funcNamed "virama/viramalaw16.FoldThree" = some 9 by kernel_rfl).symm.trans hf) |>.symm
      obtain rfl : fn = Tryz.f9 := (Option.some.inj (Tryz.func9.symm.trans hfn)).symm
      exact ⟨by kernel_rfl, fun j t ht => by
        rw [Tryz.params9] at ht
        have hm : t ∈ [29, 3] := by simpa using Array.mem_of_getElem? ht
        have hall : ([29, 3].all fun u => !Tryz.prog.wantsStandIn u) = true := by kernel_rfl
        exact (show Tryz.prog.wantsStandIn t = false by simpa using List.all_eq_true.1 hall t hm)⟩)
    (by kernel_rfl)
#print axioms three_card
end Go.Proofs.YtfbgcoeialdhhaaGreatDoor

