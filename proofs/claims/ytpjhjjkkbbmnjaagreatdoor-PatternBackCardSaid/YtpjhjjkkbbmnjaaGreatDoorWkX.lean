/- viramalaw09: shown. -/
import Derived.Test.YtpjhjjkkbbmnjaaGreatDoorWkV
namespace Go.Vir
open Go Go.RowKit Go.Proofs Go.Shelf
attribute [local go_sem] Oper.semAt_some

theorem sh1 : parsePB [65, 32, 66, 42] [[65], [66]] = ((false, [(1, 0), (2, 1)]), 0) := by decide +kernel
theorem sh2 : parsePB [94, 32, 65, 42, 42, 32, 65] [[65], [66]] = ((true, [(1, 2), (1, 0)]), 0) := by decide +kernel
theorem sh3 : ppB true [(1, 2), (1, 0)] [[65], [66]] = ([94, 32, 65, 42, 42, 32, 65], 0) := by decide +kernel
theorem sh4 : parsePB [65, 32, 67] [[65], [66]] = ((false, []), 80) := by decide +kernel
theorem sh5 : behindB false [(1, 0), (2, 1)] [1, 0, 1, 1] 4 = true := by decide +kernel
theorem sh6 : behindB true [(1, 2), (1, 0)] [0, 0] 2 = false := by decide +kernel
theorem sh7 : behindB true [(1, 2), (1, 0)] [0, 0, 0] 3 = true := by decide +kernel
theorem sh8 : fitsB [(1, 0), (2, 1)] [0] = true := by decide +kernel
theorem sh9 : aheadB false [(1, 0), (2, 1)] [1, 0] 1 = true := by decide +kernel

theorem names_AB (w : World) (W : World) (h : W.heap[w.heap.size]? = some (.cells #[.string ⟨#[65]⟩, .string ⟨#[66]⟩] 9 (0, 0))) : Strs W W.heap.size (some ⟨w.heap.size, 0, none⟩) 2 [[65], [66]] :=
  ⟨rfl, fun _ => ⟨w.heap.size, 0, rfl, (Array.getElem?_eq_some_iff.1 h).1, fun j hj => by
    match j, hj with
    | 0, _ => exact cell_blk h 0
    | 1, _ => exact cell_blk h 1⟩⟩

theorem ints_block {W : World} {b B t : Nat} {fz : Nat × Nat} {zs : List Int} (h : W.heap[b]? = some (.cells (zs.map (Value.int .i64)).toArray t fz)) (hB : b < B) : Ints W B (some ⟨b, 0, none⟩) zs.length zs :=
  ⟨rfl, fun _ => ⟨b, 0, rfl, hB, fun j hj => by
    have := cell_blk h j
    simp at this ⊢
    rw [this]; simp [hj]⟩⟩

theorem ints_new (W : World) (zs : List Int) (t : TypeId) : Ints (W.alloc (.cells (zs.map (Value.int .i64)).toArray t)) (W.alloc (.cells (zs.map (Value.int .i64)).toArray t)).heap.size (some ⟨W.heap.size, 0, none⟩) zs.length zs :=
  have h : (W.alloc (.cells (zs.map (Value.int .i64)).toArray t)).heap[W.heap.size]? = some (.cells (zs.map (Value.int .i64)).toArray t (0, 0)) := heap_new rfl
  ints_block h (Array.getElem?_eq_some_iff.1 h).1

set_option maxRecDepth 1000000 in
set_option maxHeartbeats 4000000 in
theorem law_shown (w : World) (hG : Globs w) : Calls Tryz.prog 14 #[] w fun e w' => e = .returned (.bool true) ∧ Below w.heap.size w w' := by
  have hnm : ∀ x ∈ ([[65], [66]] : List (List UInt8)), x.length ≤ 1000 := by decide
  go_enter Tryz.func14, Tryz.ntmps14
  go_wp2_with fail
  have hb1 : Below w.heap.size w (w.alloc (.cells #[.string ⟨#[65]⟩, .string ⟨#[66]⟩] 9)) := by go_grown
  have h1 := names_AB w (w.alloc (.cells #[.string ⟨#[65]⟩, .string ⟨#[66]⟩] 9)) (heap_new rfl)
  have hz1 := pattern_Parse [65, 32, 66, 42] (some ⟨w.heap.size, 0, none⟩) 2 2 [[65], [66]] _ (hG.below hb1) (by omega) h1 hnm (by decide)
  rw [sh1] at hz1
  refine hz1.mono ?_
  rintro e w2 ⟨⟨A1, n1, c1, rfl, hP1, hn1⟩, hb2⟩
  have h2 := (h1.below hb2).more hb2.size
  have hb3 := hb1.trans (hb2.mono hb1.size)
  clear hz1 hb1 h1 hb2
  go_wp2_with fail
  have hb4 : Below w2.heap.size w2 (w2.alloc (.cells #[.bool false, .slice A1 n1 c1] 24)) := by go_grown
  have hz2 := pattern_Parse [94, 32, 65, 42, 42, 32, 65] (some ⟨w.heap.size, 0, none⟩) 2 2 [[65], [66]] _ (hG.below (hb3.trans (hb4.mono hb3.size))) (by omega) ((h2.below hb4).more hb4.size) hnm (by decide)
  rw [sh2] at hz2
  refine hz2.mono ?_
  rintro e w3 ⟨⟨A2, n2, c2, rfl, hP2, hn2⟩, hb5⟩
  have hb6 : Below w2.heap.size w2 w3 := hb4.trans (hb5.mono hb4.size)
  have k1 : w3.heap[w2.heap.size]? = some (.cells #[.bool false, .slice A1 n1 c1] 24 (0, 0)) := (hb5.block _ (by simp)).trans (heap_new rfl)
  have hb7 := hb3.trans (hb6.mono hb3.size)
  have h3 := (h2.below hb6).more hb6.size
  have hP1' := (hP1.below hb6).more hb6.size
  clear hz2 hb3 hb4 hb5 hb6 h2 hP1
  go_wp2_with fail
  have hb8 : Below w3.heap.size w3 (w3.alloc (.cells #[.bool true, .slice A2 n2 c2] 24)) := by go_grown
  have hz3 := pattern_Print true A2 (some ⟨w.heap.size, 0, none⟩) n2 c2 2 2 [(1, 2), (1, 0)] [[65], [66]] _ (hG.below (hb7.trans (hb8.mono hb7.size))) ((hP2.below hb8).more hb8.size) (by omega) (by omega) ((h3.below hb8).more hb8.size) hnm
  rw [sh3] at hz3
  refine hz3.mono ?_
  rintro e w4 ⟨rfl, hb9⟩
  have hb10 : Below w3.heap.size w3 w4 := hb8.trans (hb9.mono hb8.size)
  have k2 : w4.heap[w3.heap.size]? = some (.cells #[.bool true, .slice A2 n2 c2] 24 (0, 0)) := (hb9.block _ (by simp)).trans (heap_new rfl)
  have k1' := (hb10.block _ (Array.getElem?_eq_some_iff.1 k1).1).trans k1
  have hb11 := hb7.trans (hb10.mono hb7.size)
  have h4 := (h3.below hb10).more hb10.size
  have hP3 := (hP1'.below hb10).more hb10.size
  have hP4 := (hP2.below hb10).more hb10.size
  clear hz3 hb7 hb8 hb9 hb10 h3 hP1' hP2 k1
  go_wp2_with fail
  have hz4 := pattern_Parse [65, 32, 67] (some ⟨w.heap.size, 0, none⟩) 2 2 [[65], [66]] w4 (hG.below hb11) (by omega) h4 hnm (by decide)
  rw [sh4] at hz4
  refine hz4.mono ?_
  rintro e w5 ⟨⟨A5, n5, c5, rfl, _, _⟩, hb12⟩
  have hb13 : Below w4.heap.size w4 (w5.alloc (.cells #[.bool false, .slice A5 n5 c5] 24)) := hb12.alloc hb12.size _
  generalize hW6 : w5.alloc (.cells #[.bool false, .slice A5 n5 c5] 24) = W6 at hb13
  have q1 := (hb13.block _ (Array.getElem?_eq_some_iff.1 k1').1).trans k1'
  have q2 := (hb13.block _ (Array.getElem?_eq_some_iff.1 k2).1).trans k2
  have hP5 := (hP3.below hb13).more hb13.size
  have hP6 := (hP4.below hb13).more hb13.size
  have hb14 := hb11.trans (hb13.mono hb11.size)
  clear hz4 hb11 hb12 hb13 h4 hP3 hP4 k1' k2
  go_upto_region 6 with fail
  clear hnm
  have c10 : W6.cell? ⟨w2.heap.size, 0, none⟩ = some (.bool false) := cell_blk q1 0
  have c11 : W6.cell? ⟨w2.heap.size, 1, none⟩ = some (.slice A1 n1 c1) := cell_blk q1 1
  have hi1 : Below W6.heap.size W6 (W6.alloc (.cells #[.int .i64 1, .int .i64 0, .int .i64 1, .int .i64 1] 3)) := by go_grown
  have hi2 : Ints (W6.alloc (.cells #[.int .i64 1, .int .i64 0, .int .i64 1, .int .i64 1] 3)) (W6.alloc (.cells #[.int .i64 1, .int .i64 0, .int .i64 1, .int .i64 1] 3)).heap.size (some ⟨W6.heap.size, 0, none⟩) 4 [1, 0, 1, 1] := ints_new W6 [1, 0, 1, 1] 3
  have hz1 := pattern_Behind false A1 (some ⟨W6.heap.size, 0, none⟩) n1 c1 4 4 [(1, 0), (2, 1)] [1, 0, 1, 1] 4 _ ((hP5.below hi1).more hi1.size) hi2 (by omega) (by omega) (by omega)
  rw [sh5] at hz1
  go_wp2_with fail
  refine hz1.mono ?_
  rintro e W7 ⟨rfl, hi3⟩
  have hi4 := hi1.trans (hi3.mono hi1.size)
  have r1 := (hi4.block _ (Array.getElem?_eq_some_iff.1 q1).1).trans q1
  have r2 := (hi4.block _ (Array.getElem?_eq_some_iff.1 q2).1).trans q2
  have hP7 := (hP5.below hi4).more hi4.size
  have hP8 := (hP6.below hi4).more hi4.size
  have hi5 := hb14.trans (hi4.mono hb14.size)
  clear hz1 hi1 hi2 hi3 hi4 c10 c11 q1 q2 hP5 hP6 hb14 hW6
  have c20 : W7.cell? ⟨w3.heap.size, 0, none⟩ = some (.bool true) := cell_blk r2 0
  have c21 : W7.cell? ⟨w3.heap.size, 1, none⟩ = some (.slice A2 n2 c2) := cell_blk r2 1
  have hi1 : Below W7.heap.size W7 (W7.alloc (.cells #[.int .i64 0, .int .i64 0] 3)) := by go_grown
  have hi2 : Ints (W7.alloc (.cells #[.int .i64 0, .int .i64 0] 3)) (W7.alloc (.cells #[.int .i64 0, .int .i64 0] 3)).heap.size (some ⟨W7.heap.size, 0, none⟩) 2 [0, 0] := ints_new W7 [0, 0] 3
  have hz1 := pattern_Behind true A2 (some ⟨W7.heap.size, 0, none⟩) n2 c2 2 2 [(1, 2), (1, 0)] [0, 0] 2 _ ((hP8.below hi1).more hi1.size) hi2 (by omega) (by omega) (by omega)
  rw [sh6] at hz1
  go_wp2_with fail
  refine hz1.mono ?_
  rintro e W8 ⟨rfl, hi3⟩
  have hi4 := hi1.trans (hi3.mono hi1.size)
  have s1 := (hi4.block _ (Array.getElem?_eq_some_iff.1 r1).1).trans r1
  have s2 := (hi4.block _ (Array.getElem?_eq_some_iff.1 r2).1).trans r2
  have hQ1 := (hP7.below hi4).more hi4.size
  have hQ2 := (hP8.below hi4).more hi4.size
  have hi6 := hi5.trans (hi4.mono hi5.size)
  clear hz1 hi1 hi2 hi3 hi4 c20 c21 r1 r2 hP7 hP8 hi5
  have r1 := s1
  have r2 := s2
  have hP7 := hQ1
  have hP8 := hQ2
  have hi5 := hi6
  clear s1 s2 hQ1 hQ2 hi6
  have c20 : W8.cell? ⟨w3.heap.size, 0, none⟩ = some (.bool true) := cell_blk r2 0
  have c21 : W8.cell? ⟨w3.heap.size, 1, none⟩ = some (.slice A2 n2 c2) := cell_blk r2 1
  have hi1 : Below W8.heap.size W8 (W8.alloc (.cells #[.int .i64 0, .int .i64 0, .int .i64 0] 3)) := by go_grown
  have hi2 : Ints (W8.alloc (.cells #[.int .i64 0, .int .i64 0, .int .i64 0] 3)) (W8.alloc (.cells #[.int .i64 0, .int .i64 0, .int .i64 0] 3)).heap.size (some ⟨W8.heap.size, 0, none⟩) 3 [0, 0, 0] := ints_new W8 [0, 0, 0] 3
  have hz1 := pattern_Behind true A2 (some ⟨W8.heap.size, 0, none⟩) n2 c2 3 3 [(1, 2), (1, 0)] [0, 0, 0] 3 _ ((hP8.below hi1).more hi1.size) hi2 (by omega) (by omega) (by omega)
  rw [sh7] at hz1
  go_wp2_with fail
  refine hz1.mono ?_
  rintro e W9 ⟨rfl, hi3⟩
  have hi4 := hi1.trans (hi3.mono hi1.size)
  have s1 := (hi4.block _ (Array.getElem?_eq_some_iff.1 r1).1).trans r1
  have s2 := (hi4.block _ (Array.getElem?_eq_some_iff.1 r2).1).trans r2
  have hQ1 := (hP7.below hi4).more hi4.size
  have hQ2 := (hP8.below hi4).more hi4.size
  have hi6 := hi5.trans (hi4.mono hi5.size)
  clear hz1 hi1 hi2 hi3 hi4 c20 c21 r1 r2 hP7 hP8 hi5
  have r1 := s1
  have r2 := s2
  have hP7 := hQ1
  have hP8 := hQ2
  have hi5 := hi6
  clear s1 s2 hQ1 hQ2 hi6
  have c20 : W9.cell? ⟨w2.heap.size, 0, none⟩ = some (.bool false) := cell_blk r1 0
  have c21 : W9.cell? ⟨w2.heap.size, 1, none⟩ = some (.slice A1 n1 c1) := cell_blk r1 1
  have hi1 : Below W9.heap.size W9 (W9.alloc (.cells #[.int .i64 0] 3)) := by go_grown
  have hi2 : Ints (W9.alloc (.cells #[.int .i64 0] 3)) (W9.alloc (.cells #[.int .i64 0] 3)).heap.size (some ⟨W9.heap.size, 0, none⟩) 1 [0] := ints_new W9 [0] 3
  have hz1 := pattern_Fits false A1 (some ⟨W9.heap.size, 0, none⟩) n1 c1 1 1 [(1, 0), (2, 1)] [0] _ ((hP7.below hi1).more hi1.size) hi2 (by omega) (by omega)
  rw [sh8] at hz1
  go_wp2_with fail
  refine hz1.mono ?_
  rintro e W10 ⟨rfl, hi3⟩
  have hi4 := hi1.trans (hi3.mono hi1.size)
  have s1 := (hi4.block _ (Array.getElem?_eq_some_iff.1 r1).1).trans r1
  have s2 := (hi4.block _ (Array.getElem?_eq_some_iff.1 r2).1).trans r2
  have hQ1 := (hP7.below hi4).more hi4.size
  have hQ2 := (hP8.below hi4).more hi4.size
  have hi6 := hi5.trans (hi4.mono hi5.size)
  clear hz1 hi1 hi2 hi3 hi4 c20 c21 r1 r2 hP7 hP8 hi5
  have r1 := s1
  have r2 := s2
  have hP7 := hQ1
  have hP8 := hQ2
  have hi5 := hi6
  clear s1 s2 hQ1 hQ2 hi6
  have c20 : W10.cell? ⟨w2.heap.size, 0, none⟩ = some (.bool false) := cell_blk r1 0
  have c21 : W10.cell? ⟨w2.heap.size, 1, none⟩ = some (.slice A1 n1 c1) := cell_blk r1 1
  have hi1 : Below W10.heap.size W10 (W10.alloc (.cells #[.int .i64 1, .int .i64 0] 3)) := by go_grown
  have hi2 : Ints (W10.alloc (.cells #[.int .i64 1, .int .i64 0] 3)) (W10.alloc (.cells #[.int .i64 1, .int .i64 0] 3)).heap.size (some ⟨W10.heap.size, 0, none⟩) 2 [1, 0] := ints_new W10 [1, 0] 3
  have hz1 := pattern_Ahead false A1 (some ⟨W10.heap.size, 0, none⟩) n1 c1 2 2 [(1, 0), (2, 1)] [1, 0] 1 _ ((hP7.below hi1).more hi1.size) hi2 (by omega) (by omega)
  rw [sh9] at hz1
  go_wp2_with fail
  refine hz1.mono ?_
  rintro e W11 ⟨rfl, hi3⟩
  have hi5 := hi5.trans ((hi1.trans (hi3.mono hi1.size)).mono hi5.size)
  clear hz1 hi1 hi2 hi3
  clear c20 c21 r1 r2 hP7 hP8
  go_wp2_with fail
  go_ret
  exact ⟨rfl, hi5⟩
end Go.Vir
