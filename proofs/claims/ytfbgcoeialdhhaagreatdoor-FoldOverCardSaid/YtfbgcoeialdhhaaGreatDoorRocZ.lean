/- For every text and number: a scalar is cased, is ignorable, just if the third file says so. (The listed variables are tied to the text.) -/
import Derived.Test.YtfbgcoeialdhhaaGreatDoorEn
import Derived.Test.YtfbgcoeialdhhaaGreatDoorEb
import Derived.Test.YtfbgcoeialdhhaaGreatDoorEd
import Derived.Test.YtfbgcoeialdhhaaGreatDoorTie
import Derived.Test.YtfbgcoeialdhhaaGreatDoorCards
namespace Go.Vir
open Go Go.RowKit Go.Proofs Go.Shelf
attribute [local go_sem] Oper.semAt_some

theorem law16_cut (s : List UInt8) (w : World) (hs : s.length ≤ 9223372036854775807) : Calls Tryz.prog 12 #[.string ⟨s.toArray⟩] w fun e w' => e = .returned (.string ⟨(s.take 800).toArray⟩) ∧ w = w' := by
  have hm : (min (s.length : Int) 800).toNat = min s.length 800 := by omega
  go_enter Tryz.func12, Tryz.ntmps12
  go_wp2_with fail
  go_ret
  exact ⟨by rw [text_cut, take_min]; rfl, rfl⟩

theorem two_strs (w : World) (a b : List UInt8) : Strs (w.alloc (.cells #[.string ⟨a.toArray⟩, .string ⟨b.toArray⟩] 9)) (w.alloc (.cells #[.string ⟨a.toArray⟩, .string ⟨b.toArray⟩] 9)).heap.size (some ⟨w.heap.size, 0, none⟩) 2 [a, b] :=
  ⟨rfl, fun _ => ⟨_, 0, rfl, by simp, fun j hj => by
    have hj : j < 2 := hj
    rw [Nat.zero_add, cell_blk (heap_new rfl)]
    match j, hj with
    | 0, _ => rfl
    | 1, _ => rfl⟩⟩

set_option maxRecDepth 100000 in
set_option maxHeartbeats 8000000 in
theorem law_foldcore (s0 : List UInt8) (r : Int) (w : World) (hG : GlobP w) (hs : s0.length ≤ 9223372036854775807) :
    Calls Tryz.prog 6 #[.string ⟨s0.toArray⟩, .int .i64 r] w fun e w' => e = .returned (.bool true) ∧ Below w.heap.size w w' := by
  have H0 := Lib.hid (law16_shown w hG)
  have HG := Lib.hid hG
  clear hG
  go_enter Tryz.func6, Tryz.ntmps6
  go_wp2_with fail
  refine H0.out.mono ?_
  clear H0
  rintro e w1 ⟨rfl, hb⟩
  have Hbw := Lib.hid hb
  clear hb
  go_upto_region 2 with fail
  have H := Lib.hid (law16_cut s0 w1 hs)
  go_wp2_with fail
  refine H.out.mono ?_
  clear H
  rintro e w' ⟨rfl, rfl⟩
  have hsl : (s0.take 800).length ≤ 800 := by rw [List.length_take]; omega
  generalize s0.take 800 = s at *
  obtain ⟨M, hM1⟩ : ∃ M, M = makeC [] [] s := ⟨_, rfl⟩
  have hcore := make_core s
  have hkind := fun h1 h2 => @core_kind s h1 h2 r
  rw [← hM1] at hcore hkind
  have h := fold_Make [] [] s w1 (HG.out.below Hbw.out) (by decide) (by decide) (by omega)
  rw [← hM1] at h
  have H := Lib.hid h
  clear h
  clear hM1
  go_wp2_with fail
  refine H.out.mono ?_
  clear H
  rintro e w2 ⟨⟨A, rfl, hA, hO⟩, hb⟩
  obtain ⟨Al_1, nl_1, cl_1, At_1, nt_1, ct_1, Ci_1, ni_1, ci_1, Cb_1, nb_1, cb_1, Ii_1, mi_1, di_1, Ib_1, mb_1, db_1⟩ := A
  simp only [CasA.val, CasA.cs]
  obtain ⟨w3, hW⟩ : ∃ W, W = w2.alloc (.cells #[.slice Al_1 nl_1 cl_1, .slice At_1 nt_1 ct_1, .slice Ci_1 ni_1 ci_1, .slice Cb_1 nb_1 cb_1, .slice Ii_1 mi_1 di_1, .slice Ib_1 mb_1 db_1] 29) := ⟨_, rfl⟩
  obtain ⟨b1, hbn⟩ : ∃ b, b = w2.heap.size := ⟨_, rfl⟩
  have hbA : Below w2.heap.size w2 w3 := by rw [hW]; go_grown
  have hx : w3.heap[b1]? = some (.cells #[.slice Al_1 nl_1 cl_1, .slice At_1 nt_1 ct_1, .slice Ci_1 ni_1 ci_1, .slice Cb_1 nb_1 cb_1, .slice Ii_1 mi_1 di_1, .slice Ib_1 mb_1 db_1] 29 (0, 0)) := by rw [hW, hbn]; exact heap_new rfl
  have hb := hb.trans (hbA.mono hb.size)
  have Hx1 := Lib.hid hx
  have HA1 := Lib.hid ((hA.below hbA).more hbA.size)
  have HO1 := Lib.hid hO
  clear hx hA hO hbA
  go_upto_region 4 with fail
  rw [← hW, ← hbn]
  clear hW hbn
  replace Hbw := Lib.hid (Hbw.out.trans (hb.mono Hbw.out.size))
  clear hb
  obtain ⟨cc, mn, mk, me⟩ := M
  simp only at HA1 HO1
  dsimp only
  have hbS : Below w3.heap.size w3 (w3.alloc (.cells #[.string ⟨#[78, 111]⟩, .string ⟨#[67, 97, 115, 101, 100]⟩] 9)) := by go_grown
  have hz : Strs (w3.alloc (.cells #[.string ⟨#[78, 111]⟩, .string ⟨#[67, 97, 115, 101, 100]⟩] 9)) (w3.alloc (.cells #[.string ⟨#[78, 111]⟩, .string ⟨#[67, 97, 115, 101, 100]⟩] 9)).heap.size (some ⟨w3.heap.size, 0, none⟩) 2 [noN, casedN] := two_strs w3 noN casedN
  go_upto_region 4 with fail
  have h := prop_Read (some ⟨w3.heap.size, 0, none⟩) 2 2 0 true [noN, casedN] s (w3.alloc (.cells #[.string ⟨#[78, 111]⟩, .string ⟨#[67, 97, 115, 101, 100]⟩] 9)) ((HG.out.below Hbw.out).below hbS) hz (by omega) (by intro x hx; simp only [List.mem_cons, List.not_mem_nil, or_false] at hx; rcases hx with rfl | rfl <;> decide) (by omega)
  have H := Lib.hid h
  clear h
  go_wp2_with fail
  refine H.out.mono ?_
  clear H
  rintro e w4 ⟨P1, n1, c1, rfl, hnc1, hr, hb⟩
  have hb := hbS.trans (hb.mono hbS.size)
  have HR1 := Lib.hid hr
  have hn1 : (readB s [noN, casedN] 0 true).2.2 = 0 → n1 ≤ 1000000 := fun h0 => by have h1 := (read_map h0).2.1; have h2 := hr.len; omega
  clear hr hz hbS
  replace Hbw := Lib.hid (Hbw.out.trans (hb.mono Hbw.out.size))
  replace Hx1 := Lib.hid ((hb.block _ (Array.getElem?_eq_some_iff.1 Hx1.out).1).trans Hx1.out)
  replace HA1 := Lib.hid ((HA1.out.below hb).more hb.size)
  clear hb
  obtain ⟨ra, hra⟩ : ∃ ra, ra = readB s [noN, casedN] 0 true := ⟨_, rfl⟩
  rw [← hra] at hcore hkind HR1 hn1
  rw [← hra]
  clear hra
  have hbS : Below w4.heap.size w4 (w4.alloc (.cells #[.string ⟨#[78, 111]⟩, .string ⟨#[67, 97, 115, 101, 95, 73, 103, 110, 111, 114, 97, 98, 108, 101]⟩] 9)) := by go_grown
  have hz : Strs (w4.alloc (.cells #[.string ⟨#[78, 111]⟩, .string ⟨#[67, 97, 115, 101, 95, 73, 103, 110, 111, 114, 97, 98, 108, 101]⟩] 9)) (w4.alloc (.cells #[.string ⟨#[78, 111]⟩, .string ⟨#[67, 97, 115, 101, 95, 73, 103, 110, 111, 114, 97, 98, 108, 101]⟩] 9)).heap.size (some ⟨w4.heap.size, 0, none⟩) 2 [noN, ignN] := two_strs w4 noN ignN
  go_upto_region 5 with fail
  have h := prop_Read (some ⟨w4.heap.size, 0, none⟩) 2 2 0 true [noN, ignN] s (w4.alloc (.cells #[.string ⟨#[78, 111]⟩, .string ⟨#[67, 97, 115, 101, 95, 73, 103, 110, 111, 114, 97, 98, 108, 101]⟩] 9)) ((HG.out.below Hbw.out).below hbS) hz (by omega) (by intro x hx; simp only [List.mem_cons, List.not_mem_nil, or_false] at hx; rcases hx with rfl | rfl <;> decide) (by omega)
  have H := Lib.hid h
  clear h
  go_wp2_with fail
  refine H.out.mono ?_
  clear H
  rintro e w5 ⟨P2, n2, c2, rfl, hnc2, hr, hb⟩
  have hb := hbS.trans (hb.mono hbS.size)
  have HR2 := Lib.hid hr
  have hn2 : (readB s [noN, ignN] 0 true).2.2 = 0 → n2 ≤ 1000000 := fun h0 => by have h1 := (read_map h0).2.1; have h2 := hr.len; omega
  clear hr hz hbS
  replace Hbw := Lib.hid (Hbw.out.trans (hb.mono Hbw.out.size))
  replace Hx1 := Lib.hid ((hb.block _ (Array.getElem?_eq_some_iff.1 Hx1.out).1).trans Hx1.out)
  replace HA1 := Lib.hid ((HA1.out.below hb).more hb.size)
  replace HR1 := Lib.hid ((HR1.out.below hb).more hb.size)
  clear hb
  obtain ⟨rb, hrb⟩ : ∃ rb, rb = readB s [noN, ignN] 0 true := ⟨_, rfl⟩
  rw [← hrb] at hcore hkind HR2 hn2
  rw [← hrb]
  clear hrb
  obtain ⟨la, pa, ea⟩ := ra
  obtain ⟨lb, pb, eb⟩ := rb
  simp only [Prod.mk.injEq] at hcore hkind HR1 HR2 hn1 hn2
  dsimp only
  rcases hcore with ⟨h1, rfl, rfl, rfl, rfl⟩ | ⟨h1, h2, rfl, rfl, rfl, rfl⟩ | ⟨h1, h2, rfl, rfl, rfl, rfl⟩
  · have e1 : (me != 0) = true := by simpa using h1
    clear hkind
    go_wp2_with fail
    go_ret
    exact ⟨rfl, Hbw.out⟩
  · skip
    have e2 : (me != 0) = true := by simpa using h2
    subst h1
    clear hkind
    go_wp2_with fail
    go_ret
    exact ⟨rfl, Hbw.out⟩
  · replace hn1 := hn1 h1
    replace hn2 := hn2 h2
    have hk := hkind h1 h2
    subst h1
    subst h2
    clear hkind
    go_upto_region 10 with fail
    have h := span_Find P1 n1 c1 la r w5 HR1.out hn1
    have H := Lib.hid h
    clear h
    go_wp2_with fail
    refine H.out.mono ?_
    clear H
    rintro e w6 ⟨rfl, hb⟩
    replace Hbw := Lib.hid (Hbw.out.trans (hb.mono Hbw.out.size))
    replace Hx1 := Lib.hid ((hb.block _ (Array.getElem?_eq_some_iff.1 Hx1.out).1).trans Hx1.out)
    replace HA1 := Lib.hid ((HA1.out.below hb).more hb.size)
    replace HR1 := Lib.hid ((HR1.out.below hb).more hb.size)
    replace HR2 := Lib.hid ((HR2.out.below hb).more hb.size)
    clear hb
    go_upto_region 11 with fail
    have h := span_Find P2 n2 c2 lb r w6 HR2.out hn2
    have H := Lib.hid h
    clear h
    go_wp2_with fail
    refine H.out.mono ?_
    clear H
    rintro e w7 ⟨rfl, hb⟩
    replace Hbw := Lib.hid (Hbw.out.trans (hb.mono Hbw.out.size))
    replace Hx1 := Lib.hid ((hb.block _ (Array.getElem?_eq_some_iff.1 Hx1.out).1).trans Hx1.out)
    replace HA1 := Lib.hid ((HA1.out.below hb).more hb.size)
    replace HR1 := Lib.hid ((HR1.out.below hb).more hb.size)
    replace HR2 := Lib.hid ((HR2.out.below hb).more hb.size)
    clear hb
    generalize (findR la r).getD 0 = va at *
    generalize (findR lb r).getD 0 = vb at *
    have d1 : (va == 1) = decide (va = 1) := by rw [Bool.eq_iff_iff]; simp
    have d2 : (vb == 1) = decide (vb = 1) := by rw [Bool.eq_iff_iff]; simp
    generalize decide (va = 1) = xa at *
    generalize decide (vb = 1) = xb at *
    rcases hs : scaR r with _ | _
    · rw [hs, if_neg (show ¬ false = true by decide)] at hk
      go_upto_region 12 with fail
      obtain ⟨f0_1, f1_1, f2_1, f3_1, f4_1, f5_1⟩ := cells6 Hx1.out
      have h := fold_Kind ⟨Al_1, nl_1, cl_1, At_1, nt_1, ct_1, Ci_1, ni_1, ci_1, Cb_1, nb_1, cb_1, Ii_1, mi_1, di_1, Ib_1, mb_1, db_1⟩ _ r w7 HA1.out HO1.out
      rw [hk] at h
      have H := Lib.hid h
      clear h
      clear hk
      go_wp2_with fail
      refine H.out.mono ?_
      clear H
      clear f0_1 f1_1 f2_1 f3_1 f4_1 f5_1
      rintro e w8 ⟨rfl, hb⟩
      replace Hbw := Lib.hid (Hbw.out.trans (hb.mono Hbw.out.size))
      replace Hx1 := Lib.hid ((hb.block _ (Array.getElem?_eq_some_iff.1 Hx1.out).1).trans Hx1.out)
      replace HA1 := Lib.hid ((HA1.out.below hb).more hb.size)
      replace HR1 := Lib.hid ((HR1.out.below hb).more hb.size)
      replace HR2 := Lib.hid ((HR2.out.below hb).more hb.size)
      clear hb
      go_upto_region 13 with fail
      have h := scalar_Right r w8
      rw [hs] at h
      have H := Lib.hid h
      clear h
      clear hs
      go_wp2_with fail
      refine H.out.mono ?_
      clear H
      rintro e w9 ⟨rfl, hb⟩
      replace Hbw := Lib.hid (Hbw.out.trans (hb.mono Hbw.out.size))
      replace Hx1 := Lib.hid ((hb.block _ (Array.getElem?_eq_some_iff.1 Hx1.out).1).trans Hx1.out)
      replace HA1 := Lib.hid ((HA1.out.below hb).more hb.size)
      replace HR1 := Lib.hid ((HR1.out.below hb).more hb.size)
      replace HR2 := Lib.hid ((HR2.out.below hb).more hb.size)
      clear hb
      go_wp2_with fail
      go_ret
      exact ⟨rfl, Hbw.out⟩
    · rw [hs, if_pos (show true = true from rfl)] at hk
      go_upto_region 12 with fail
      obtain ⟨f0_1, f1_1, f2_1, f3_1, f4_1, f5_1⟩ := cells6 Hx1.out
      have h := fold_Kind ⟨Al_1, nl_1, cl_1, At_1, nt_1, ct_1, Ci_1, ni_1, ci_1, Cb_1, nb_1, cb_1, Ii_1, mi_1, di_1, Ib_1, mb_1, db_1⟩ _ r w7 HA1.out HO1.out
      rw [hk] at h
      have H := Lib.hid h
      clear h
      clear hk
      go_wp2_with fail
      refine H.out.mono ?_
      clear H
      clear f0_1 f1_1 f2_1 f3_1 f4_1 f5_1
      rintro e w8 ⟨rfl, hb⟩
      replace Hbw := Lib.hid (Hbw.out.trans (hb.mono Hbw.out.size))
      replace Hx1 := Lib.hid ((hb.block _ (Array.getElem?_eq_some_iff.1 Hx1.out).1).trans Hx1.out)
      replace HA1 := Lib.hid ((HA1.out.below hb).more hb.size)
      replace HR1 := Lib.hid ((HR1.out.below hb).more hb.size)
      replace HR2 := Lib.hid ((HR2.out.below hb).more hb.size)
      clear hb
      go_upto_region 13 with fail
      have h := scalar_Right r w8
      rw [hs] at h
      have H := Lib.hid h
      clear h
      clear hs
      go_wp2_with fail
      refine H.out.mono ?_
      clear H
      rintro e w9 ⟨rfl, hb⟩
      replace Hbw := Lib.hid (Hbw.out.trans (hb.mono Hbw.out.size))
      replace Hx1 := Lib.hid ((hb.block _ (Array.getElem?_eq_some_iff.1 Hx1.out).1).trans Hx1.out)
      replace HA1 := Lib.hid ((HA1.out.below hb).more hb.size)
      replace HR1 := Lib.hid ((HR1.out.below hb).more hb.size)
      replace HR2 := Lib.hid ((HR2.out.below hb).more hb.size)
      clear hb
      go_wp2_with fail
      go_ret
      exact ⟨rfl, Hbw.out⟩
end Go.Vir


/- For every text and number: a scalar is cased, is ignorable, just if the third file says so. (The listed variables are tied to the text.) -/
namespace Go.Proofs.YtfbgcoeialdhhaaGreatDoor
open Go Go.Vir Go.RowKit Go.Proofs Go.ChangeShapes Go.WideShapes Go.ChangeAt

set_option maxHeartbeats 800000 in
set_option maxRecDepth 100000 in
theorem core_lifted (os : Os) (started : os.Started) (H : Type) (enc : TypeId × Value → H) :
    ReturnsInHanded {} Tryz.checked os 6 .any (fun w args => (Rows.foldCoreSpec.pre enc Tryz.prog Tryz.f6 [] false w args ∧ laidMetH Tryz.prog laidF w) ∧ sizedMet enc Tryz.prog Tryz.f6 (OpenSpec.ofChange Rows.foldCoreSpec) false w args)
      (Rows.foldCoreSpec.post enc Tryz.prog Tryz.f6 false true false false) := by
  refine returns_shaped (C := Tryz.checked) (X := fun w _ => laidMetH Tryz.prog laidF w) (fun _ _ _ hh h => h.of_heap hh) own started (by kernel_rfl) Tryz.func6
    (ChangeSpec.witness_shaped (enc := enc) (C := Tryz.checked) (os := os) (X := fun w _ => laidMetH Tryz.prog laidF w) false (worldF os) #[.string ⟨#[]⟩, .int .i64 0] 8 (worldF_os os) (worldF_shaped os) (by kernel_rfl) (by kernel_rfl) (by kernel_rfl) (worldF_met os _)) ?_
  intro W base args ds gs before hval0 hW hsh hL
  have hval : ∀ (j : Nat) t v, Tryz.f6.params[j]? = some t → args[j]? = some v → Value.okWide Tryz.prog W .any base t v := hval0
  have hW' := hW
  obtain ⟨p, q, hA0, hV, rfl, _, _⟩ := hW
  have hA : DataW.TrodAll enc Tryz.prog W 0 (fun _ => true) true Tryz.f6.params.toList args.toList ds p := hA0
  rw [Tryz.params6] at hA hval
  obtain ⟨v0, v1, d0, d1, p0, p1, rfl, rfl, rfl, h0, h1⟩ := trodAll_two hA
  obtain ⟨rfl, rfl⟩ := trodVars_none hV
  have hlt : ∀ x ∈ p0 ++ p1, x.block < W.heap.size := fun x hx => by simpa using hW'.lt x (by simpa using hx)
  have hargs : ∀ (W' : World), Below W.heap.size W W' → DataW.TrodAll enc Tryz.prog W' 0 (fun b => decide (b < W.heap.size)) true #[9, 3].toList #[v0, v1].toList [d0, d1] (p0 ++ p1) := fun W' hn =>
    trodAll_mk2 (Below.trod laidOut (by kernel_rfl) (of_decide_eq_true (by kernel_rfl)) h0 hn (fun x hx => hlt x (by simp [hx]))) (Below.trod laidOut (by kernel_rfl) (of_decide_eq_true (by kernel_rfl)) h1 hn (fun x hx => hlt x (by simp [hx])))
  have hG := globF_of_laid hsh hL
  have key : Calls Tryz.prog 6 #[v0, v1] W fun e W' => e = .returned (.bool true) ∧ Below W.heap.size W W' := by
    obtain ⟨s, rfl, hs⟩ := open_text (hval 0 9 v0 rfl rfl) h0
    obtain ⟨k, rfl, _, _, _⟩ := open_int Tryz.underlying3 (hval 1 3 v1 rfl rfl) h1
    exact law_foldcore s k W hG hs
  refine key.mono fun e W' ⟨he, hn⟩ => ?_
  subst he
  exact ⟨_, rfl, _, _, _, [], _, [], hW', trodAll_mk1 (shut_bool Tryz.underlying4 true), hargs _ hn, rfl, hn.frame _, fun h => by cases h⟩

set_option maxRecDepth 100000 in
set_option maxHeartbeats 4000000 in
theorem core_closed : joinedFacts Tryz.prog 6 Tryz.f6 Rows.foldCoreSpec Rows.foldCoreRow = true := by
  unfold joinedFacts
  repeat' (with_reducible apply and_mk)
  all_goals as_aux_lemma => kernel_rfl
set_option maxHeartbeats 4000000 in
theorem core_holds : Rows.FoldCoreSaid :=
  OpenClaim.holds_of_wide 6 Tryz.f6 rfl rfl rfl rfl rfl rfl rfl ⟨rfl, rfl, rfl, rfl, rfl⟩ rfl rfl rfl rfl rfl (by kernel_rfl) Tryz.func6 core_closed
    (of_decide_eq_true (by kernel_rfl)) (by unfold Func.isWrapper; first | (rw [if_pos (by decide +kernel)]; kernel_rfl) | (rw [if_neg (by decide +kernel)]; exact ⟨rfl, rfl⟩))
    (fun os started H enc _ => core_lifted os started H enc)

theorem core_card : Rows.FoldCoreCardSaid :=
  Claim7.holds_tied_plain_at .later [] [.data, .handle, .sentinel, .sentinel, .sentinel, .pinned] true (true, "8a3d459157c03a40dede506b41f2d01909352594c40e7c19881fac7cd10dec03") true
    core_holds (fun _ h => by cases h) (by kernel_rfl) (fun _ h => by cases h) foldCore_row_tie rfl ⟨rfl, rfl⟩ (by kernel_rfl) rfl
    (fun f fn hf hfn => by
      obtain rfl : f = 6 := Option.some.inj ((show Tryz.prog.funcNamed "virama/viramalaw16.FoldCore" = some 6 by kernel_rfl).symm.trans hf) |>.symm
      obtain rfl : fn = Tryz.f6 := (Option.some.inj (Tryz.func6.symm.trans hfn)).symm
      exact ⟨by kernel_rfl, fun j t ht => by
        rw [Tryz.params6] at ht
        have hm : t ∈ [9, 3] := by simpa using Array.mem_of_getElem? ht
        have hall : ([9, 3].all fun u => !Tryz.prog.wantsStandIn u) = true := by kernel_rfl
        exact (show Tryz.prog.wantsStandIn t = false by simpa using List.all_eq_true.1 hall t hm)⟩)
    (by kernel_rfl)
#print axioms core_card
end Go.Proofs.YtfbgcoeialdhhaaGreatDoor

