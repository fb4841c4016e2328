/- The row of PatternTexts and its tied card: for every input (under the row's conditions on the listed variables) the law returns true and its arguments read as before. -/
import Derived.Test.YtpjhjjkkbbmnjaaGreatDoorBh
import Derived.Test.YtpjhjjkkbbmnjaaGreatDoorBn
import Derived.Test.YtpjhjjkkbbmnjaaGreatDoorBo
import Derived.Test.YtpjhjjkkbbmnjaaGreatDoorRzZ
import Derived.Test.YtpjhjjkkbbmnjaaGreatDoorBj
import Derived.Test.YtpjhjjkkbbmnjaaGreatDoorTie
import Derived.Test.YtpjhjjkkbbmnjaaGreatDoorCards
/- viramalaw09: PatternTexts. -/
namespace Go.Vir
open Go Go.RowKit Go.Proofs Go.Shelf
attribute [local go_sem] Oper.semAt_some

set_option maxRecDepth 100000 in
set_option maxHeartbeats 3200000 in
theorem law_texts (st : Bool) (A B : Option Addr) (m0 c0 n0 c1 : Nat) (xs0 : List (Int × Int)) (s0 : List UInt8) (ss0 : List (List UInt8)) (w : World) (hG : Globs w) (hx : Prs w w.heap.size A m0 xs0) (hc0 : m0 ≤ c0) (hz : Strs w w.heap.size B n0 ss0) (hn0 : n0 ≤ 9223372036854775807) (hs0 : s0.length ≤ 9223372036854775807) :
    Calls Tryz.prog 3 #[.agg #[.bool st, .slice A m0 c0], .string ⟨s0.toArray⟩, .slice B n0 c1] w fun e w' => e = .returned (.bool true) ∧ Below w.heap.size w w' := by
  go_enter Tryz.func3, Tryz.ntmps3
  go_wp2_with fail
  have hb0 : Below w.heap.size w (w.alloc (.cells #[.bool st, .slice A m0 c0] 24)) := by go_grown
  have k0 : (w.alloc (.cells #[.bool st, .slice A m0 c0] 24)).heap[w.heap.size]? = some (.cells #[.bool st, .slice A m0 c0] 24 (0, 0)) := heap_new rfl
  refine (law_shown _ (hG.below hb0)).mono ?_
  rintro e w1 ⟨rfl, hb1⟩
  have q0 := (hb1.block _ (Array.getElem?_eq_some_iff.1 k0).1).trans k0
  have hb2 : Below w.heap.size w w1 := hb0.trans (hb1.mono hb0.size)
  clear k0 hb0 hb1
  have c00 := cell_blk q0 0
  have c01 := cell_blk q0 1
  simp only [List.getElem?_toArray, List.getElem?_cons_zero, List.getElem?_cons_succ] at c00 c01
  go_wp2_with fail
  refine (law_Cut st A m0 c0 w1 hc0).mono ?_
  rintro e w2 ⟨rfl, hb3⟩
  have r0 := (hb3.block _ (Array.getElem?_eq_some_iff.1 q0).1).trans q0
  have hb4 : Below w.heap.size w w2 := hb2.trans (hb3.mono hb2.size)
  clear q0 c00 c01 hb3 hb2
  have f00 := frozen_blk r0 0
  have f01 := frozen_blk r0 1
  have c00 := cell_blk r0 0
  have c01 := cell_blk r0 1
  simp only [List.getElem?_toArray, List.getElem?_cons_zero, List.getElem?_cons_succ] at c00 c01
  go_upto_region 3 with fail
  have k0 := setCell_blk (setCell_blk r0 0 (.bool st)) 1 (.slice A (min m0 12) c0)
  have hb5 : Below w.heap.size w ((w2.setCell ⟨w.heap.size, 0, none⟩ (.bool st)).setCell ⟨w.heap.size, 1, none⟩ (.slice A (min m0 12) c0)) := (hb4.setCell (p := ⟨w.heap.size, 0, none⟩) (Nat.le_refl _) _).setCell (p := ⟨w.heap.size, 1, none⟩) (Nat.le_refl _) _
  clear f00 f01 c00 c01 r0 hb4
  generalize ((w2.setCell ⟨w.heap.size, 0, none⟩ (.bool st)).setCell ⟨w.heap.size, 1, none⟩ (.slice A (min m0 12) c0)) = W at *
  have k0' : W.heap[w.heap.size]? = some (.cells #[.bool st, .slice A (min m0 12) c0] 24 (0, 0)) := k0
  clear k0
  have hm12 : min m0 12 ≤ 12 := by omega
  have hxW := ((hx.below hb5).more hb5.size).take (min m0 12) (by omega)
  generalize min m0 12 = m at *
  generalize xs0.take m = xs at *
  go_wp2_with fail
  simp only [show (min (s0.length : Int) 300).toNat = min s0.length 300 by omega, text_cut]
  have hsl : (s0.take (min s0.length 300)).length ≤ 300 := by simp; omega
  generalize s0.take (min s0.length 300) = s at *
  refine (law_Few5 B n0 c1 ss0 W ((hz.below hb5).more hb5.size) hn0).mono ?_
  rintro e w3 ⟨⟨B', n', c', rfl, hn', hS⟩, hb6⟩
  obtain ⟨hf1, hf2⟩ := few_len ss0
  have hsn := hS.len
  generalize fewL ss0 = ss at *
  have hs1000 : ∀ x ∈ ss, x.length ≤ 1000 := fun x hx => by have := hf2 x hx; omega
  have hb7 : Below w.heap.size w w3 := hb5.trans (hb6.mono hb5.size)
  have k3 := (hb6.block _ (Array.getElem?_eq_some_iff.1 k0').1).trans k0'
  have hx3 := (hxW.below hb6).more hb6.size
  have hn34 : n' ≤ 34 := by omega
  have hpp := pattern_Print st A B' m c0 n' c' xs ss w3 (hG.below hb7) hx3 (by omega) (by omega) hS hs1000
  have hrp := fun (W : World) (h1 : Prs W W.heap.size A m xs) (h2 : Strs W W.heap.size B' n' ss) => ref_Print9 st A m c0 xs B' n' c' ss W h1 (by omega) (by omega) hn' h2 hs1000
  generalize ppB st xs ss = pp at hpp hrp
  obtain ⟨t, pe⟩ := pp
  simp only at hpp hrp
  have Hrp := Lib.hid hrp
  have c00 := cell_blk k3 0
  have c01 := cell_blk k3 1
  simp only [List.getElem?_toArray, List.getElem?_cons_zero, List.getElem?_cons_succ] at c00 c01
  clear hb5 hb6 k0' hxW hx hz hsn hf1 hf2 hrp
  go_wp2_with fail
  refine hpp.mono ?_
  rintro e w4 ⟨rfl, hb8⟩
  have k4 := (hb8.block _ (Array.getElem?_eq_some_iff.1 k3).1).trans k3
  have hb9 : Below w.heap.size w w4 := hb7.trans (hb8.mono hb7.size)
  have hx4 := (hx3.below hb8).more hb8.size
  have hS4 := (hS.below hb8).more hb8.size
  clear hpp hb7 hb8 k3 hx3 hS c00 c01
  have c00 := cell_blk k4 0
  have c01 := cell_blk k4 1
  simp only [List.getElem?_toArray, List.getElem?_cons_zero, List.getElem?_cons_succ] at c00 c01
  go_wp2_with fail
  refine (Hrp.out w4 hx4 hS4).mono ?_
  rintro e w5 ⟨rfl, hb10⟩
  have hb11 : Below w.heap.size w w5 := hb9.trans (hb10.mono hb9.size)
  have hS5 := (hS4.below hb10).more hb10.size
  clear Hrp hb9 hb10 k4 hx4 hS4 c00 c01
  have hp1 := pattern_Parse s B' n' c' ss w5 (hG.below hb11) (by omega) hS5 hs1000 (by omega)
  have hp2 := fun (W : World) (h2 : Strs W W.heap.size B' n' ss) => ref_Parse9 s B' n' c' ss W (by omega) hn' h2 hs1000 (by omega)
  generalize parsePB s ss = r at hp1 hp2
  obtain ⟨⟨st2, xs2⟩, f⟩ := r
  have Hp2 := Lib.hid hp2
  clear hp2
  go_wp2_with fail
  refine hp1.mono ?_
  rintro e w6 ⟨⟨A2, n2, c2, rfl, hP2, hn2⟩, hb12⟩
  simp only at hP2
  have d1 : (w6.alloc (.cells #[.bool st2, .slice A2 n2 c2] 24)).heap[w6.heap.size]? = some (.cells #[.bool st2, .slice A2 n2 c2] 24 (0, 0)) := heap_new rfl
  have hb13 : Below w.heap.size w (w6.alloc (.cells #[.bool st2, .slice A2 n2 c2] 24)) := (hb11.trans (hb12.mono hb11.size)).alloc (hb11.trans (hb12.mono hb11.size)).size _
  have hP6 := (hP2.below ((Below.refl _ w6).alloc (Nat.le_refl _) (.cells #[.bool st2, .slice A2 n2 c2] 24))).more (show w6.heap.size ≤ (w6.alloc (.cells #[.bool st2, .slice A2 n2 c2] 24)).heap.size by simp)
  have hS6 := (((hS5.below hb12).more hb12.size).below ((Below.refl _ w6).alloc (Nat.le_refl _) (.cells #[.bool st2, .slice A2 n2 c2] 24))).more (show w6.heap.size ≤ (w6.alloc (.cells #[.bool st2, .slice A2 n2 c2] 24)).heap.size by simp)
  clear hp1 hP2 hb12 hb11 hS5
  go_wp2_with fail
  refine (Hp2.out _ hS6).mono ?_
  rintro e w7 ⟨⟨A3, n3, c3, rfl, hP3, hn3, _⟩, hb14⟩
  simp only at hP3
  have d2 := (hb14.block _ (Array.getElem?_eq_some_iff.1 d1).1).trans d1
  have e1 : (w7.alloc (.cells #[.bool st2, .slice A3 n3 c3] 24)).heap[w6.heap.size]? = some (.cells #[.bool st2, .slice A2 n2 c2] 24 (0, 0)) := (heap_old (Array.getElem?_eq_some_iff.1 d2).1).trans d2
  have e2 : (w7.alloc (.cells #[.bool st2, .slice A3 n3 c3] 24)).heap[w7.heap.size]? = some (.cells #[.bool st2, .slice A3 n3 c3] 24 (0, 0)) := heap_new rfl
  have hb15 := (hb13.trans (hb14.mono hb13.size)).alloc (hb13.trans (hb14.mono hb13.size)).size (.cells #[.bool st2, .slice A3 n3 c3] 24)
  have hal : Below w7.heap.size w7 (w7.alloc (.cells #[.bool st2, .slice A3 n3 c3] 24)) := (Below.refl _ w7).alloc (Nat.le_refl _) _
  have hP7 := (((hP6.below hb14).more hb14.size).below hal).more hal.size
  have hP8 := (hP3.below hal).more hal.size
  have hsame := ref_Same st2 st2 A2 A3 n2 c2 n3 c3 xs2 xs2 _ hP7 hP8 (by omega) (by omega)
  rw [show sameB st2 st2 xs2 xs2 = true by simp [sameB]] at hsame
  have a0 := cell_blk e1 0
  have a1 := cell_blk e1 1
  have b0 := cell_blk e2 0
  have b1 := cell_blk e2 1
  simp only [List.getElem?_toArray, List.getElem?_cons_zero, List.getElem?_cons_succ] at a0 a1 b0 b1
  have Hsame := Lib.hid hsame
  clear hsame hP6 hP3 hal hb13 hb14 hP7 hP8 d1 d2 hS6 Hp2 e1 e2
  go_wp2_with fail
  refine Hsame.out.mono ?_
  rintro e w8 ⟨rfl, hbq⟩
  have hb16 := hb15.trans (hbq.mono hb15.size)
  go_wp2_with fail
  go_ret
  exact ⟨rfl, hb16⟩
end Go.Vir

/- The row of PatternTexts and its tied card: for every input (under the row's conditions on the listed variables) the law returns true and its arguments read as before. -/
namespace Go.Proofs.YtpjhjjkkbbmnjaaGreatDoor
open Go Go.Vir Go.RowKit Go.Proofs Go.ChangeShapes Go.WideShapes Go.ChangeAt

set_option maxHeartbeats 800000 in
set_option maxRecDepth 100000 in
theorem texts_lifted (os : Os) (started : os.Started) (H : Type) (enc : TypeId × Value → H) :
    ReturnsInHanded {} Tryz.checked os 3 .any (fun w args => (Rows.patternTextsSpec.pre enc Tryz.prog Tryz.f3 [] false w args ∧ laidMetH Tryz.prog laid5 w) ∧ sizedMet enc Tryz.prog Tryz.f3 (OpenSpec.ofChange Rows.patternTextsSpec) false w args)
      (Rows.patternTextsSpec.post enc Tryz.prog Tryz.f3 false true false false) := by
  refine returns_shaped (C := Tryz.checked) (X := fun w _ => laidMetH Tryz.prog laid5 w) (fun _ _ _ hh h => h.of_heap hh) own started (by kernel_rfl) Tryz.func3
    (ChangeSpec.witness_shaped (enc := enc) (C := Tryz.checked) (os := os) (X := fun w _ => laidMetH Tryz.prog laid5 w) false (world5 os) #[.agg #[.bool false, .slice none 0 0], .string ⟨#[]⟩, .slice none 0 0] 8 (world5_os os) (world5_shaped os) (by kernel_rfl) (by kernel_rfl) (by kernel_rfl) (world5_met os _)) ?_
  intro W base args ds gs before hval0 hW hsh hL
  have hval : ∀ (j : Nat) t v, Tryz.f3.params[j]? = some t → args[j]? = some v → Value.okWide Tryz.prog W .any base t v := hval0
  have hW' := hW
  obtain ⟨p, q, hA0, hV, rfl, _, _⟩ := hW
  have hA : DataW.TrodAll enc Tryz.prog W 0 (fun _ => true) true Tryz.f3.params.toList args.toList ds p := hA0
  rw [Tryz.params3] at hA hval
  obtain ⟨v0, v1, v2, d0, d1, d2, p0, p1, p2, rfl, rfl, rfl, h0, h1, h2⟩ := trodAll_three hA
  obtain ⟨rfl, rfl⟩ := trodVars_none hV
  have hlt : ∀ x ∈ p0 ++ p1 ++ p2, x.block < W.heap.size := fun x hx => by simpa using hW'.lt x (by simpa using hx)
  have hargs : ∀ (W' : World), Below W.heap.size W W' → DataW.TrodAll enc Tryz.prog W' 0 (fun b => decide (b < W.heap.size)) true #[24, 9, 25].toList #[v0, v1, v2].toList [d0, d1, d2] (p0 ++ (p1 ++ p2)) := fun W' hn =>
    trodAll_mk3 (Below.trod laidOut (by kernel_rfl) (of_decide_eq_true (by kernel_rfl)) h0 hn (fun x hx => hlt x (by simp [hx]))) (Below.trod laidOut (by kernel_rfl) (of_decide_eq_true (by kernel_rfl)) h1 hn (fun x hx => hlt x (by simp [hx]))) (Below.trod laidOut (by kernel_rfl) (of_decide_eq_true (by kernel_rfl)) h2 hn (fun x hx => hlt x (by simp [hx])))
  have hG := globs_of_laid hsh hL
  have key : Calls Tryz.prog 3 #[v0, v1, v2] W fun e W' => e = .returned (.bool true) ∧ Below W.heap.size W W' := by
    obtain ⟨st, A, m, c, xs, rfl, hc, hx⟩ := open_pattern (hval 0 24 v0 rfl rfl) h0
    obtain ⟨s, rfl, hs⟩ := open_text (hval 1 9 v1 rfl rfl) h1
    obtain ⟨B, n, c2, ss, rfl, hn, hz⟩ := open_texts (hval 2 25 v2 rfl rfl) h2
    exact law_texts st A B m c n c2 xs s ss W hG hx hc hz hn hs
  refine key.mono fun e W' ⟨he, hn⟩ => ?_
  subst he
  exact ⟨_, rfl, _, _, _, [], _, [], hW', trodAll_mk1 (shut_bool Tryz.underlying4 true), hargs _ hn, rfl, hn.frame _, fun h => by cases h⟩

theorem texts_holds : Rows.PatternTextsSaid :=
  OpenClaim.holds_of_wide 3 Tryz.f3 rfl rfl rfl rfl rfl rfl rfl ⟨rfl, rfl, rfl, rfl, rfl⟩ rfl rfl rfl rfl rfl (by kernel_rfl) Tryz.func3 (by kernel_rfl)
    (of_decide_eq_true (by kernel_rfl)) (by unfold Func.isWrapper; first | (rw [if_pos (by decide +kernel)]; kernel_rfl) | (rw [if_neg (by decide +kernel)]; exact ⟨rfl, rfl⟩))
    (fun os started H enc _ => texts_lifted os started H enc)

theorem texts_card : Rows.PatternTextsCardSaid :=
  Claim7.holds_tied_plain_at .later [] [.data, .handle, .sentinel, .sentinel, .pinned] true (true, "f3439994263bda936d81294eb39ac78299b5f0291b6d31f5858efdaf1e51f421") true
    texts_holds (fun _ h => by cases h) (by kernel_rfl) (fun _ h => by cases h) patternTexts_row_tie rfl ⟨rfl, rfl⟩ (by kernel_rfl) rfl
    (fun f fn hf hfn => by
      obtain rfl : f = 3 := Option.some.inj ((show Tryz.prog.funcNamed "virama/viramalaw09.PatternTexts" = some 3 by kernel_rfl).symm.trans hf) |>.symm
      obtain rfl : fn = Tryz.f3 := (Option.some.inj (Tryz.func3.symm.trans hfn)).symm
      exact ⟨by kernel_rfl, fun j t ht => by
        rw [Tryz.params3] at ht
        have hm : t ∈ [24, 9, 25] := by simpa using Array.mem_of_getElem? ht
        have hall : ([24, 9, 25].all fun u => !Tryz.prog.wantsStandIn u) = true := by kernel_rfl
        exact (show Tryz.prog.wantsStandIn t = false by simpa using List.all_eq_true.1 hall t hm)⟩)
    (by kernel_rfl)
#print axioms texts_card
end Go.Proofs.YtpjhjjkkbbmnjaaGreatDoor
