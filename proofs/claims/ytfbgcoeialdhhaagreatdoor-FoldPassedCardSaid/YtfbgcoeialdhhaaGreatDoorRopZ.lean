/- For any three texts: records of ranges, and those that have a condition, say nothing. (The listed variables are tied to the text.) -/
import Derived.Test.YtfbgcoeialdhhaaGreatDoorEn
import Derived.Test.YtfbgcoeialdhhaaGreatDoorEb
import Derived.Test.YtfbgcoeialdhhaaGreatDoorEd
import Derived.Test.YtfbgcoeialdhhaaGreatDoorRocZ
import Derived.Test.YtfbgcoeialdhhaaGreatDoorTie
import Derived.Test.YtfbgcoeialdhhaaGreatDoorCards
namespace Go.Vir
open Go Go.RowKit Go.Proofs Go.Shelf
attribute [local go_sem] Oper.semAt_some

set_option maxRecDepth 100000 in
set_option maxHeartbeats 8000000 in
theorem law_foldpassed (a0 b0 c0 : List UInt8) (w : World) (hG : GlobP w) (h1 : a0.length ≤ 9223372036854775807) (h2 : b0.length ≤ 9223372036854775807) (h3 : c0.length ≤ 9223372036854775807) :
    Calls Tryz.prog 8 #[.string ⟨a0.toArray⟩, .string ⟨b0.toArray⟩, .string ⟨c0.toArray⟩] w fun e w' => e = .returned (.bool true) ∧ Below w.heap.size w w' := by
  have H0 := Lib.hid (law16_shown w hG)
  have HG := Lib.hid hG
  clear hG
  go_enter Tryz.func8, Tryz.ntmps8
  go_wp2_with fail
  refine H0.out.mono ?_
  clear H0
  rintro e w1 ⟨rfl, hb⟩
  have Hbw := Lib.hid hb
  clear hb
  go_upto_region 2 with fail
  have H := Lib.hid (law16_cut a0 w1 h1)
  go_wp2_with fail
  refine H.out.mono ?_
  clear H
  rintro e w' ⟨rfl, rfl⟩
  obtain ⟨a, ha⟩ : ∃ x, x = a0.take 800 := ⟨_, rfl⟩
  have Ha := Lib.hid ha
  have hla : a.length ≤ 800 := by rw [ha, List.length_take]; omega
  rw [← ha]
  clear ha
  have H := Lib.hid (law16_cut b0 w1 h2)
  go_wp2_with fail
  refine H.out.mono ?_
  clear H
  rintro e w' ⟨rfl, rfl⟩
  obtain ⟨b, hb⟩ : ∃ x, x = b0.take 800 := ⟨_, rfl⟩
  have Hb := Lib.hid hb
  have hlb : b.length ≤ 800 := by rw [hb, List.length_take]; omega
  rw [← hb]
  clear hb
  have H := Lib.hid (law16_cut c0 w1 h3)
  go_wp2_with fail
  refine H.out.mono ?_
  clear H
  rintro e w' ⟨rfl, rfl⟩
  obtain ⟨c, hc⟩ : ∃ x, x = c0.take 800 := ⟨_, rfl⟩
  have Hc := Lib.hid hc
  have hlc : c.length ≤ 800 := by rw [hc, List.length_take]; omega
  rw [← hc]
  clear hc
  obtain ⟨M, hM1⟩ : ∃ M, M = makeC a b c := ⟨_, rfl⟩
  have hM2 : M = makeC (a ++ 10 :: tailA) (b ++ 10 :: tailB) c := hM1.trans (passed_law c hla hlb).symm
  have HM2 := Lib.hid hM2
  clear hM2
  have h := fold_Make a b c w1 (HG.out.below Hbw.out) (by omega) (by omega) (by omega)
  rw [← hM1] at h
  have H := Lib.hid h
  clear h
  clear hM1
  go_wp2_with fail
  refine H.out.mono ?_
  clear H
  rintro e w2 ⟨⟨A, rfl, hA, hO⟩, hb⟩
  obtain ⟨Al_1, nl_1, cl_1, At_1, nt_1, ct_1, Ci_1, ni_1, ci_1, Cb_1, nb_1, cb_1, Ii_1, mi_1, di_1, Ib_1, mb_1, db_1⟩ := A
  simp only [CasA.val, CasA.cs]
  obtain ⟨w3, hW⟩ : ∃ W, W = w2.alloc (.cells #[.slice Al_1 nl_1 cl_1, .slice At_1 nt_1 ct_1, .slice Ci_1 ni_1 ci_1, .slice Cb_1 nb_1 cb_1, .slice Ii_1 mi_1 di_1, .slice Ib_1 mb_1 db_1] 29) := ⟨_, rfl⟩
  obtain ⟨b1, hbn⟩ : ∃ b, b = w2.heap.size := ⟨_, rfl⟩
  have hbA : Below w2.heap.size w2 w3 := by rw [hW]; go_grown
  have hx : w3.heap[b1]? = some (.cells #[.slice Al_1 nl_1 cl_1, .slice At_1 nt_1 ct_1, .slice Ci_1 ni_1 ci_1, .slice Cb_1 nb_1 cb_1, .slice Ii_1 mi_1 di_1, .slice Ib_1 mb_1 db_1] 29 (0, 0)) := by rw [hW, hbn]; exact heap_new rfl
  have hb := hb.trans (hbA.mono hb.size)
  have Hx1 := Lib.hid hx
  have HA1 := Lib.hid ((hA.below hbA).more hbA.size)
  have HO1 := Lib.hid hO
  clear hx hA hO hbA
  go_upto_region 3 with fail
  rw [← hW, ← hbn]
  clear hW hbn
  replace Hbw := Lib.hid (Hbw.out.trans (hb.mono Hbw.out.size))
  clear hb
  have hno1 : ¬ 9223372036854775807 < (a.length : Int) + 15 := by omega
  have hno2 : ¬ 9223372036854775807 < (b.length : Int) + 27 := by omega
  have hno3 : ¬ 9223372036854775807 < a.length + 15 := by omega
  have hno4 : ¬ 9223372036854775807 < b.length + 27 := by omega
  go_upto_region 3 with fail
  have H := Lib.hid (law16_cut a0 w3 h1)
  go_wp2_with fail
  refine H.out.mono ?_
  clear H
  rintro e w' ⟨rfl, rfl⟩
  rw [← Ha.out]
  have H := Lib.hid (law16_cut b0 w3 h2)
  go_wp2_with fail
  refine H.out.mono ?_
  clear H
  rintro e w' ⟨rfl, rfl⟩
  rw [← Hb.out]
  have H := Lib.hid (law16_cut c0 w3 h3)
  go_wp2_with fail
  refine H.out.mono ?_
  clear H
  rintro e w' ⟨rfl, rfl⟩
  rw [← Hc.out]
  have hM2 := HM2.out
  have h := fold_Make (a ++ 10 :: tailA) (b ++ 10 :: tailB) c w3 (HG.out.below Hbw.out) (by rw [List.length_append, List.length_cons]; have : tailA.length = 14 := rfl; omega) (by rw [List.length_append, List.length_cons]; have : tailB.length = 26 := rfl; omega) (by omega)
  rw [← hM2] at h
  have H := Lib.hid h
  clear h
  clear hM2
  go_wp2_with fail
  refine H.out.mono ?_
  clear H
  rintro e w4 ⟨⟨A, rfl, hA, hO⟩, hb⟩
  obtain ⟨Al_2, nl_2, cl_2, At_2, nt_2, ct_2, Ci_2, ni_2, ci_2, Cb_2, nb_2, cb_2, Ii_2, mi_2, di_2, Ib_2, mb_2, db_2⟩ := A
  simp only [CasA.val, CasA.cs]
  obtain ⟨w5, hW⟩ : ∃ W, W = w4.alloc (.cells #[.slice Al_2 nl_2 cl_2, .slice At_2 nt_2 ct_2, .slice Ci_2 ni_2 ci_2, .slice Cb_2 nb_2 cb_2, .slice Ii_2 mi_2 di_2, .slice Ib_2 mb_2 db_2] 29) := ⟨_, rfl⟩
  obtain ⟨b2, hbn⟩ : ∃ b, b = w4.heap.size := ⟨_, rfl⟩
  have hbA : Below w4.heap.size w4 w5 := by rw [hW]; go_grown
  have hx : w5.heap[b2]? = some (.cells #[.slice Al_2 nl_2 cl_2, .slice At_2 nt_2 ct_2, .slice Ci_2 ni_2 ci_2, .slice Cb_2 nb_2 cb_2, .slice Ii_2 mi_2 di_2, .slice Ib_2 mb_2 db_2] 29 (0, 0)) := by rw [hW, hbn]; exact heap_new rfl
  have hb := hb.trans (hbA.mono hb.size)
  have Hx2 := Lib.hid hx
  have HA2 := Lib.hid ((hA.below hbA).more hbA.size)
  have HO2 := Lib.hid hO
  clear hx hA hO hbA
  go_upto_region 4 with fail
  rw [← hW, ← hbn]
  clear hW hbn
  replace Hbw := Lib.hid (Hbw.out.trans (hb.mono Hbw.out.size))
  replace Hx1 := Lib.hid ((hb.block _ (Array.getElem?_eq_some_iff.1 Hx1.out).1).trans Hx1.out)
  replace HA1 := Lib.hid ((HA1.out.below hb).more hb.size)
  clear hb
  obtain ⟨cc, mn, mk, me⟩ := M
  simp only at HA1 HO1 HA2 HO2
  dsimp only
  clear HM2
  obtain ⟨f0_1, f1_1, f2_1, f3_1, f4_1, f5_1⟩ := cells6 Hx1.out
  obtain ⟨f0_2, f1_2, f2_2, f3_2, f4_2, f5_2⟩ := cells6 Hx2.out
  have h := fold_Same ⟨Al_1, nl_1, cl_1, At_1, nt_1, ct_1, Ci_1, ni_1, ci_1, Cb_1, nb_1, cb_1, Ii_1, mi_1, di_1, Ib_1, mb_1, db_1⟩ ⟨Al_2, nl_2, cl_2, At_2, nt_2, ct_2, Ci_2, ni_2, ci_2, Cb_2, nb_2, cb_2, Ii_2, mi_2, di_2, Ib_2, mb_2, db_2⟩ cc cc w5 HA1.out HA2.out HO1.out
  rw [decide_eq_true rfl] at h
  have H := Lib.hid h
  clear h
  go_wp2_with fail
  refine H.out.mono ?_
  clear H
  clear f0_1 f1_1 f2_1 f3_1 f4_1 f5_1
  clear f0_2 f1_2 f2_2 f3_2 f4_2 f5_2
  rintro e w6 ⟨rfl, hb⟩
  replace Hbw := Lib.hid (Hbw.out.trans (hb.mono Hbw.out.size))
  replace Hx1 := Lib.hid ((hb.block _ (Array.getElem?_eq_some_iff.1 Hx1.out).1).trans Hx1.out)
  replace HA1 := Lib.hid ((HA1.out.below hb).more hb.size)
  replace Hx2 := Lib.hid ((hb.block _ (Array.getElem?_eq_some_iff.1 Hx2.out).1).trans Hx2.out)
  replace HA2 := Lib.hid ((HA2.out.below hb).more hb.size)
  clear hb
  go_wp2_with fail
  go_ret
  exact ⟨rfl, Hbw.out⟩
end Go.Vir


/- For any three texts: records of ranges, and those that have a condition, say nothing. (The listed variables are tied to the text.) -/
namespace Go.Proofs.YtfbgcoeialdhhaaGreatDoor
open Go Go.Vir Go.RowKit Go.Proofs Go.ChangeShapes Go.WideShapes Go.ChangeAt

set_option maxHeartbeats 800000 in
set_option maxRecDepth 100000 in
theorem passed_lifted (os : Os) (started : os.Started) (H : Type) (enc : TypeId × Value → H) :
    ReturnsInHanded {} Tryz.checked os 8 .any (fun w args => (Rows.foldPassedSpec.pre enc Tryz.prog Tryz.f8 [] false w args ∧ laidMetH Tryz.prog laidF w) ∧ sizedMet enc Tryz.prog Tryz.f8 (OpenSpec.ofChange Rows.foldPassedSpec) false w args)
      (Rows.foldPassedSpec.post enc Tryz.prog Tryz.f8 false true false false) := by
  refine returns_shaped (C := Tryz.checked) (X := fun w _ => laidMetH Tryz.prog laidF w) (fun _ _ _ hh h => h.of_heap hh) own started (by kernel_rfl) Tryz.func8
    (ChangeSpec.witness_shaped (enc := enc) (C := Tryz.checked) (os := os) (X := fun w _ => laidMetH Tryz.prog laidF w) false (worldF os) #[.string ⟨#[]⟩, .string ⟨#[]⟩, .string ⟨#[]⟩] 8 (worldF_os os) (worldF_shaped os) (by kernel_rfl) (by kernel_rfl) (by kernel_rfl) (worldF_met os _)) ?_
  intro W base args ds gs before hval0 hW hsh hL
  have hval : ∀ (j : Nat) t v, Tryz.f8.params[j]? = some t → args[j]? = some v → Value.okWide Tryz.prog W .any base t v := hval0
  have hW' := hW
  obtain ⟨p, q, hA0, hV, rfl, _, _⟩ := hW
  have hA : DataW.TrodAll enc Tryz.prog W 0 (fun _ => true) true Tryz.f8.params.toList args.toList ds p := hA0
  rw [Tryz.params8] at hA hval
  obtain ⟨v0, v1, v2, d0, d1, d2, p0, p1, p2, rfl, rfl, rfl, h0, h1, h2⟩ := trodAll_three hA
  obtain ⟨rfl, rfl⟩ := trodVars_none hV
  have hlt : ∀ x ∈ p0 ++ p1 ++ p2, x.block < W.heap.size := fun x hx => by simpa using hW'.lt x (by simpa using hx)
  have hargs : ∀ (W' : World), Below W.heap.size W W' → DataW.TrodAll enc Tryz.prog W' 0 (fun b => decide (b < W.heap.size)) true #[9, 9, 9].toList #[v0, v1, v2].toList [d0, d1, d2] (p0 ++ (p1 ++ p2)) := fun W' hn =>
    trodAll_mk3 (Below.trod laidOut (by kernel_rfl) (of_decide_eq_true (by kernel_rfl)) h0 hn (fun x hx => hlt x (by simp [hx]))) (Below.trod laidOut (by kernel_rfl) (of_decide_eq_true (by kernel_rfl)) h1 hn (fun x hx => hlt x (by simp [hx]))) (Below.trod laidOut (by kernel_rfl) (of_decide_eq_true (by kernel_rfl)) h2 hn (fun x hx => hlt x (by simp [hx])))
  have hG := globF_of_laid hsh hL
  have key : Calls Tryz.prog 8 #[v0, v1, v2] W fun e W' => e = .returned (.bool true) ∧ Below W.heap.size W W' := by
    obtain ⟨s, rfl, hs⟩ := open_text (hval 0 9 v0 rfl rfl) h0
    obtain ⟨s2, rfl, hs2⟩ := open_text (hval 1 9 v1 rfl rfl) h1
    obtain ⟨s3, rfl, hs3⟩ := open_text (hval 2 9 v2 rfl rfl) h2
    exact law_foldpassed s s2 s3 W hG hs hs2 hs3
  refine key.mono fun e W' ⟨he, hn⟩ => ?_
  subst he
  exact ⟨_, rfl, _, _, _, [], _, [], hW', trodAll_mk1 (shut_bool Tryz.underlying4 true), hargs _ hn, rfl, hn.frame _, fun h => by cases h⟩

set_option maxRecDepth 100000 in
set_option maxHeartbeats 4000000 in
theorem passed_closed : joinedFacts Tryz.prog 8 Tryz.f8 Rows.foldPassedSpec Rows.foldPassedRow = true := by
  unfold joinedFacts
  repeat' (with_reducible apply and_mk)
  all_goals as_aux_lemma => kernel_rfl
set_option maxHeartbeats 4000000 in
theorem passed_holds : Rows.FoldPassedSaid :=
  OpenClaim.holds_of_wide 8 Tryz.f8 rfl rfl rfl rfl rfl rfl rfl ⟨rfl, rfl, rfl, rfl, rfl⟩ rfl rfl rfl rfl rfl (by kernel_rfl) Tryz.func8 passed_closed
    (of_decide_eq_true (by kernel_rfl)) (by unfold Func.isWrapper; first | (rw [if_pos (by decide +kernel)]; kernel_rfl) | (rw [if_neg (by decide +kernel)]; exact ⟨rfl, rfl⟩))
    (fun os started H enc _ => passed_lifted os started H enc)

theorem passed_card : Rows.FoldPassedCardSaid :=
  Claim7.holds_tied_plain_at .later [] [.data, .handle, .sentinel, .sentinel, .sentinel, .pinned] true (true, "8a3d459157c03a40dede506b41f2d01909352594c40e7c19881fac7cd10dec03") true
    passed_holds (fun _ h => by cases h) (by kernel_rfl) (fun _ h => by cases h) foldPassed_row_tie rfl ⟨rfl, rfl⟩ (by kernel_rfl) rfl
    (fun f fn hf hfn => by
      obtain rfl : f = 8 := Option.some.inj ((show Tryz.prog.funcNamed "virama/viramalaw16.FoldPassed" = some 8 by kernel_rfl).symm.trans hf) |>.symm
      obtain rfl : fn = Tryz.f8 := (Option.some.inj (Tryz.func8.symm.trans hfn)).symm
      exact ⟨by kernel_rfl, fun j t ht => by
        rw [Tryz.params8] at ht
        have hm : t ∈ [9, 9, 9] := by simpa using Array.mem_of_getElem? ht
        have hall : ([9, 9, 9].all fun u => !Tryz.prog.wantsStandIn u) = true := by kernel_rfl
        exact (show Tryz.prog.wantsStandIn t = false by simpa using List.all_eq_true.1 hall t hm)⟩)
    (by kernel_rfl)
#print axioms passed_card
end Go.Proofs.YtfbgcoeialdhhaaGreatDoor

