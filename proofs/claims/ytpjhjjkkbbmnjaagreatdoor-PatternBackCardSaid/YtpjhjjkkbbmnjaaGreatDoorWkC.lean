/- The walks of the matcher: once, any, pairs. -/
import Derived.Test.YtpjhjjkkbbmnjaaGreatDoorWkB
import Derived.RangeFuncBox
import Derived.Maps.AppendAt
import Derived.StillTailTactics
namespace Go.Vir
open Go Go.RowKit Go.Proofs Go.Shelf
attribute [local go_sem] Oper.semAt_some

/-- The places that one item may end at, from one on. -/
def stepL (s : Int) (h : Int) (zs : List Int) (at_ : Nat) : List Int :=
  if h = 0 then (if 0 < runLen s zs at_ then [((at_ + 1 : Nat) : Int)] else [])
  else if h = 1 then (List.range (runLen s zs at_ + 1)).map fun i => ((at_ + i : Nat) : Int)
  else ((List.range (runLen s zs at_ + 1)).filter fun i => i % 2 == 0).map fun i => ((at_ + i : Nat) : Int)

set_option maxHeartbeats 400000 in
theorem matcher_once (p q : Nat) (A : Option Addr) (n c : Nat) (zs : List Int) (s : Int) (at_ : Nat) (w : World) (hn : n ≤ 1000000) (hat : at_ ≤ n)
    (hp : p < w.heap.size) (cp : w.cell? ⟨p, q, none⟩ = some (.slice A n c)) (hz : Ints w w.heap.size A n zs) :
    Calls Tryz.prog 109 #[.pointer (some ⟨p, q, none⟩), .int .i64 s, .int .i64 (at_ : Int)] w fun e w' =>
      ∃ A' n' c', e = .returned (.slice A' n' c') ∧ Ints w' w'.heap.size A' n' (stepL s 0 zs at_) ∧ Below w.heap.size w w' := by
  refine (callsIn_wide (n := 0)).1 ?_
  refine callsIn_of_wp_marks Tryz.func109 rfl trivial ?_ rfl
  simp only [Tryz.ntmps109, List.size_toArray, List.length_cons, List.length_nil, Nat.reduceAdd, Nat.reduceSub, Array.replicate_succ, Array.replicate_zero, List.push_toArray, List.append_toArray, List.nil_append, List.cons_append]
  refine wpIn_wide.2 ?_
  go_wp2_with (go_at_call 146; refine (run_make _ _ _ _).mono ?_; rintro e w1 ⟨rfl, rfl⟩)
  refine wp_gen ?_
  intro W1 hW1
  have hsz : W1.heap.size = w.heap.size + 4 := by simp [hW1]
  have hb : Below w.heap.size w W1 := by rw [hW1]; go_grown
  have d0 : W1.heap[w.heap.size]? = some (.cells #[.slice none 0 0] 36 (0, 0)) := (by rw [hW1]; simp (disch := (first | omega | (simp only [World.size_alloc]; done) | (simp only [World.size_alloc]; omega))) only [heap_laws])
  have d1 : W1.heap[w.heap.size + 1]? = some (.cells #[.pointer (some ⟨p, q, none⟩)] 248 (0, 0)) := (by rw [hW1]; simp (disch := (first | omega | (simp only [World.size_alloc]; done) | (simp only [World.size_alloc]; omega))) only [heap_laws])
  have d2 : W1.heap[w.heap.size + 1 + 1]? = some (.cells #[.int .i64 s] 2 (0, 0)) := (by rw [hW1]; simp (disch := (first | omega | (simp only [World.size_alloc]; done) | (simp only [World.size_alloc]; omega))) only [heap_laws])
  have d3 : W1.heap[w.heap.size + 1 + 2]? = some (.cells #[.int .i64 at_] 3 (0, 0)) := (by rw [hW1]; simp (disch := (first | omega | (simp only [World.size_alloc]; done) | (simp only [World.size_alloc]; omega))) only [heap_laws])
  clear hW1
  have hlen := hz.len
  refine (wpIn_wide (n := 0)).1 ?_
  refine range_law (a₁ := ?a1) rfl (enters_of Tryz.func174 (by kernel_rfl) rfl) (run_iter w.heap.size (w.heap.size + 1) p q A n c zs s at_ W1 hp (by omega) (by omega) hn hat d1 d2 d3 ((cellOf hb hp).trans cp) (hz.below hb)) (Below.refl _ _)
    (fun k hk => by omega) (by omega) (fun _ => rfl)
    (fun i W => i = 0 ∧ Below w.heap.size w W ∧ W.heap[w.heap.size]? = some (.cells #[.slice none 0 0] 36 (0, 0)))
    (fun i c W => c = .ret ∧ i = 0 ∧ Below w.heap.size w W ∧ ∃ g, w.heap.size + 4 ≤ g ∧ W.heap[w.heap.size]? = some (.cells #[.slice (some ⟨g, 0, none⟩) 1 1] 36 (0, 0)) ∧ W.heap[g]? = some (.cells #[.int .i64 ((at_ + 1 : Nat) : Int)] 3 (0, 0)))
    (fun i X Y hi hm => ⟨hi.1, Below.moves hi.2.1 hm (Nat.le_refl _) (fun k hk => by omega), hm.cells hi.2.2 (by omega)⟩)
    (fun i c X Y hi hm => by
      obtain ⟨h1, h2, h3, g, h4, h5, h6⟩ := hi
      exact ⟨h1, h2, Below.moves h3 hm (Nat.le_refl _) (fun k hk => by omega), g, h4, hm.cells h5 (by omega), hm.cells h6 (by omega)⟩)
    ⟨rfl, hb, d0⟩ ?assign ?body ?done ?stop
  case assign =>
    intro l i W K hK
    gi_wp2
    exact hK
  case body =>
    rintro l i W hi ⟨rfl, hbW, hc0⟩ hsW
    have e0 : W.cell? ⟨w.heap.size, 0, none⟩ = some (.slice none 0 0) := by simp [World.cell?, hc0]
    have e1 : W.frozen? ⟨w.heap.size, 0, none⟩ = false := frozen_blk hc0 0
    have hlt : w.heap.size < W.heap.size := by omega
    gi_wp2
    refine ⟨(Keeps.setCell _ (by simp; omega) (by simp) _).trans (Keeps.below (fun k hk => by simp; omega) (by simp; omega) ((Below.refl _ _).alloc (Nat.le_refl _) _)), rfl, rfl, (hbW.setCell (by simp) _).alloc (by simp; omega) _, W.heap.size, by omega, ?_, ?_⟩
    · rw [heap_old (by simp; omega)]; simp [World.setCell, Array.getElem?_modify, hc0]
    · exact heap_new (by simp)
  case done =>
    rintro D W hD ⟨h1, hbW, hc0⟩ hK
    have e0 : W.cell? ⟨w.heap.size, 0, none⟩ = some (.slice none 0 0) := by simp [World.cell?, hc0]
    have e1 : W.frozen? ⟨w.heap.size, 0, none⟩ = false := frozen_blk hc0 0
    go_wp2
    have hne : w.heap.size ≠ D := by rintro rfl; rw [hc0] at hK; cases hK
    have hK2 : (W.setCell ⟨w.heap.size, 0, none⟩ (.slice none 0 0)).heap[D]? = some (.deferred (some [])) := (Below.heap_setCell _ _ _ _ (Ne.symm hne)).trans hK
    have hc2 : (W.setCell ⟨w.heap.size, 0, none⟩ (.slice none 0 0)).heap[w.heap.size]? = some (.cells #[.slice none 0 0] 36 (0, 0)) := by simp [World.setCell, Array.getElem?_modify, hc0]
    refine ⟨by simp, .inl ⟨_, _, rfl, run_takeDeferred hK2, ?_⟩⟩
    have f1 := cell_blk ((World.putObj_heap_other (o := .deferred none) hne).trans hc2) 0
    refine ⟨.slice none 0 0, by simp [results, Tryz.results109, go_sem, f1], none, 0, 0, rfl, ?_, ?_⟩
    · rw [stepL, if_pos rfl, if_neg (by omega)]; exact Ints.nil _ _ _
    · exact (hbW.setCell (by simp) _).trans ⟨rfl, rfl, rfl, by simp, fun k hk => World.putObj_heap_other (by omega)⟩
  case stop =>
    rintro D i c W hD hi ⟨rfl, rfl, hbW, g, hg, hc0, hc1⟩ hK
    gi_wp2
    refine ⟨by simp, .inl ⟨_, _, rfl, run_takeDeferred hK, ?_⟩⟩
    have hne : w.heap.size ≠ D := by rintro rfl; rw [hc0] at hK; cases hK
    have hne2 : g ≠ D := by rintro rfl; rw [hc1] at hK; cases hK
    have f0 : (W.putObj D (.deferred none)).heap[w.heap.size]? = some (.cells #[.slice (some ⟨g, 0, none⟩) 1 1] 36 (0, 0)) := (World.putObj_heap_other hne).trans hc0
    have f1 : (W.putObj D (.deferred none)).cell? ⟨w.heap.size, 0, none⟩ = some (.slice (some ⟨g, 0, none⟩) 1 1) := by simp [World.cell?, f0]
    have f2 : (W.putObj D (.deferred none)).heap[g]? = some (.cells #[.int .i64 ((at_ + 1 : Nat) : Int)] 3 (0, 0)) := (World.putObj_heap_other hne2).trans hc1
    refine ⟨.slice (some ⟨g, 0, none⟩) 1 1, by simp [results, Tryz.results109, go_sem, f1], _, 1, 1, rfl, ?_, ?_⟩
    · rw [stepL, if_pos rfl, if_pos (by omega)]
      exact ⟨rfl, fun _ => ⟨g, 0, rfl, (Array.getElem?_eq_some_iff.1 f2).1, fun j hj => by
        obtain rfl : j = 0 := by simpa using hj
        simp [World.cell?, f2]⟩⟩
    · exact hbW.trans ⟨rfl, rfl, rfl, by simp, fun k hk => World.putObj_heap_other (by omega)⟩

theorem int_info : (Tryz.prog.info? 3).map (fun i => (i.zero, i.size, i.bytes)) = some (some (.int .i64 0), 1, 8) := by kernel_rfl

theorem stepL_any (s : Int) (zs : List Int) (at_ : Nat) : stepL s 1 zs at_ = (List.range (runLen s zs at_ + 1)).map fun i => ((at_ + i : Nat) : Int) := by
  simp [stepL]

set_option maxHeartbeats 400000 in
theorem matcher_any (p q : Nat) (A : Option Addr) (n c : Nat) (zs : List Int) (s : Int) (at_ : Nat) (w : World) (hn : n ≤ 1000000) (hat : at_ ≤ n)
    (hp : p < w.heap.size) (cp : w.cell? ⟨p, q, none⟩ = some (.slice A n c)) (hz : Ints w w.heap.size A n zs) :
    Calls Tryz.prog 110 #[.pointer (some ⟨p, q, none⟩), .int .i64 s, .int .i64 (at_ : Int)] w fun e w' =>
      ∃ A' n' c', e = .returned (.slice A' n' c') ∧ Ints w' w'.heap.size A' n' (stepL s 1 zs at_) ∧ Below w.heap.size w w' := by
  obtain ⟨i0, hi0, hz0, hz1, hz2⟩ := info_parts int_info
  have hrl := runLen_le s zs at_ (by have := hz.len; omega)
  have hN : runLen s zs at_ ≤ 1000000 := by have := hz.len; omega
  clear hrl
  refine (callsIn_wide (n := 0)).1 ?_
  refine callsIn_of_wp_marks Tryz.func110 rfl trivial ?_ rfl
  simp only [Tryz.ntmps110, List.size_toArray, List.length_cons, List.length_nil, Nat.reduceAdd, Nat.reduceSub, Array.replicate_succ, Array.replicate_zero, List.push_toArray, List.append_toArray, List.nil_append, List.cons_append]
  refine wpIn_wide.2 ?_
  go_wp2_with (go_at_call 146; refine (run_make _ _ _ _).mono ?_; rintro e w1 ⟨rfl, rfl⟩)
  refine wp_gen ?_
  intro W1 hW1
  have hsz : W1.heap.size = w.heap.size + 5 := by simp [hW1]
  have hb : Below w.heap.size w W1 := by rw [hW1]; go_grown
  have d0 : W1.heap[w.heap.size]? = some (.cells #[.int .i64 at_] 3 (0, 0)) := (by rw [hW1]; simp (disch := (first | omega | (simp only [World.size_alloc]; done) | (simp only [World.size_alloc]; omega))) only [heap_laws])
  have d1 : W1.heap[w.heap.size + 1]? = some (.cells #[.slice (some ⟨w.heap.size, 0, none⟩) 1 1] 36 (0, 0)) := (by rw [hW1]; simp (disch := (first | omega | (simp only [World.size_alloc]; done) | (simp only [World.size_alloc]; omega))) only [heap_laws])
  have d2 : W1.heap[w.heap.size + 1 + 1]? = some (.cells #[.pointer (some ⟨p, q, none⟩)] 248 (0, 0)) := (by rw [hW1]; simp (disch := (first | omega | (simp only [World.size_alloc]; done) | (simp only [World.size_alloc]; omega))) only [heap_laws])
  have d3 : W1.heap[w.heap.size + 1 + 1 + 1]? = some (.cells #[.int .i64 s] 2 (0, 0)) := (by rw [hW1]; simp (disch := (first | omega | (simp only [World.size_alloc]; done) | (simp only [World.size_alloc]; omega))) only [heap_laws])
  have d4 : W1.heap[w.heap.size + 1 + 1 + 2]? = some (.cells #[.int .i64 at_] 3 (0, 0)) := (by rw [hW1]; simp (disch := (first | omega | (simp only [World.size_alloc]; done) | (simp only [World.size_alloc]; omega))) only [heap_laws])
  clear hW1
  have hrow0 : W1.ownsRow w.heap.size 3 1 (.slice (some ⟨w.heap.size, 0, none⟩) 1 1) 1 [.int .i64 at_] :=
    ⟨rfl, .inr ⟨w.heap.size, 1, #[.int .i64 at_], rfl, Nat.le_refl _, d0, Nat.le_refl _, by simp [maxLen], rfl, rfl⟩⟩
  refine (wpIn_wide (n := 0)).1 ?_
  refine range_law (a₁ := ?a1) rfl (enters_of Tryz.func174 (by kernel_rfl) rfl) (run_iter w.heap.size (w.heap.size + 1 + 1) p q A n c zs s at_ W1 hp (by omega) (by omega) hn hat d2 d3 d4 ((cellOf hb hp).trans cp) (hz.below hb)) (Below.refl _ _)
    (fun k hk => by omega) (by omega) (fun _ => rfl)
    (fun i W => Below w.heap.size w W ∧ ∃ v, Boxed W (w.heap.size + 1) 36 v ∧ W.ownsRow w.heap.size 3 1 v (i + 1) ((List.range (i + 1)).map fun j => .int .i64 ((at_ + j : Nat) : Int)) ∧ (∀ g, v.ownBlock = some g → ¬ (w.heap.size + 1 + 1 ≤ g ∧ g < w.heap.size + 1 + 1 + 3)))
    (fun i c W => False)
    (fun i X Y hi hm => by
      obtain ⟨h1, v, h2, h3, h4⟩ := hi
      exact ⟨Below.moves h1 hm (Nat.le_refl _) (fun k hk => by omega), v, hm.cells h2 (by omega), ownsRow_moves h3 hm h4, h4⟩)
    (fun i c X Y hi hm => hi)
    ⟨hb, _, d1, hrow0, fun g hg => by simp [Value.ownBlock] at hg; omega⟩ ?assign ?body ?done ?stop
  case assign =>
    intro l i W K hK
    gi_wp2
    exact hK
  case body =>
    rintro l i W hi ⟨hbW, v, hv, hrow, hgO⟩ hsW
    have e0 := hv.cell
    have hlt : w.heap.size + 1 < W.heap.size := by omega
    have hNi : i < 1000000 := by omega
    gi_wp2_with (gi_at_builtin; refine wpListIn_append_at _ rfl _ _ 36 rfl w.heap.size 3 i0 (.int .i64 0) 1 8 Tryz.underlying36 hi0 hz0 hz1 hz2 rfl (by decide) _ _ _ rfl (hrow.alloc _) ⟨W.heap.size, 0, none⟩ 1 1 [.int .i64 ((at_ : Int) + i + 1)] rfl rfl (cell_one_new _ _ _) (by simp [Value.oneCell']) (by simp only [maxLen]; omega) (by omega) (by simp; omega) ?_; intro v' w1 hown' hgrow hat'; obtain ⟨g', cap', rfl⟩ := ownsRow_succ hown'; have hap := boxed_appendedK (O := fun k => w.heap.size + 1 + 1 ≤ k ∧ k < w.heap.size + 1 + 1 + 3) hv (by decide) hrow (by omega) (by omega) (by simp) (fun k (hk : w.heap.size + 1 + 1 ≤ k ∧ k < w.heap.size + 1 + 1 + 3) => by omega) hgO hown' hgrow hat'; obtain ⟨hv1, hv2, hr2, hk2, hb2, hg2⟩ := hap; have hc1 := hv1.cell; have hf1 := hv1.frozen)
    have hL : (List.range (i + 1)).map (fun j => Value.int .i64 ((at_ + j : Nat) : Int)) ++ [.int .i64 ((at_ : Int) + i + 1)] = (List.range (i + 1 + 1)).map fun j => .int .i64 ((at_ + j : Nat) : Int) := by
      rw [List.range_succ (n := i + 1), List.map_append, List.map_singleton, show ((at_ + (i + 1) : Nat) : Int) = (at_ : Int) + i + 1 by omega]
    rw [hL] at hr2
    exact ⟨hk2, hbW.trans hb2, _, hv2, hr2, hg2⟩
  case done =>
    rintro D W hD ⟨hbW, v, hv, hrow, hgO⟩ hK
    have e0 := hv.cell
    obtain ⟨g, cap, rfl⟩ := ownsRow_succ hrow
    go_wp2
    refine ⟨by simp, .inl ⟨_, _, rfl, run_takeDeferred hK, ?_⟩⟩
    refine ⟨_, results_tmp rfl _ _ _, _, _, _, rfl, ?_, ?_⟩
    · have h1 := ownsRow_putObj hrow (.deferred none) hK rfl
      rw [stepL_any]
      exact Ints.of_own (by rw [List.map_map]; exact h1)
    · exact hbW.trans ⟨rfl, rfl, rfl, by simp, fun k hk => World.putObj_heap_other (by omega)⟩
  case stop =>
    rintro D i c W hD hi h hK
    exact h.elim

theorem range_filter_succ (N : Nat) (p : Nat → Bool) : (List.range (N + 1)).filter p = (List.range N).filter p ++ if p N then [N] else [] := by
  rw [List.range_succ, List.filter_append]
  congr 1
  simp [List.filter_cons]
theorem range_filter_zero (N : Nat) : (List.range (N + 1)).filter (fun j => j % 2 == 0) = 0 :: ((List.range N).map (· + 1)).filter (fun j => j % 2 == 0) := by
  rw [List.range_succ_eq_map, List.filter_cons_of_pos (by simp)]
theorem stepL_pairs (s : Int) (zs : List Int) (at_ : Nat) : stepL s 2 zs at_ = ((List.range (runLen s zs at_ + 1)).filter fun i => i % 2 == 0).map fun i => ((at_ + i : Nat) : Int) := by
  simp [stepL]

set_option maxRecDepth 100000 in
set_option maxHeartbeats 400000 in
theorem matcher_pairs (p q : Nat) (A : Option Addr) (n c : Nat) (zs : List Int) (s : Int) (at_ : Nat) (w : World) (hn : n ≤ 1000000) (hat : at_ ≤ n)
    (hp : p < w.heap.size) (cp : w.cell? ⟨p, q, none⟩ = some (.slice A n c)) (hz : Ints w w.heap.size A n zs) :
    Calls Tryz.prog 111 #[.pointer (some ⟨p, q, none⟩), .int .i64 s, .int .i64 (at_ : Int)] w fun e w' =>
      ∃ A' n' c', e = .returned (.slice A' n' c') ∧ Ints w' w'.heap.size A' n' (stepL s 2 zs at_) ∧ Below w.heap.size w w' := by
  obtain ⟨i0, hi0, hz0, hz1, hz2⟩ := info_parts int_info
  have hrl := runLen_le s zs at_ (by have := hz.len; omega)
  have hN : runLen s zs at_ ≤ 1000000 := by have := hz.len; omega
  clear hrl
  refine (callsIn_wide (n := 0)).1 ?_
  refine callsIn_of_wp_marks Tryz.func111 rfl trivial ?_ rfl
  simp only [Tryz.ntmps111, List.size_toArray, List.length_cons, List.length_nil, Nat.reduceAdd, Nat.reduceSub, Array.replicate_succ, Array.replicate_zero, List.push_toArray, List.append_toArray, List.nil_append, List.cons_append]
  refine wpIn_wide.2 ?_
  go_wp2
  refine wp_gen ?_
  intro W0 hW0
  have k0 : W0.heap[w.heap.size]? = some (.cells #[.int .i64 at_] 3 (0, 0)) := (by rw [hW0]; simp (disch := (first | omega | (simp only [World.size_alloc]; done) | (simp only [World.size_alloc]; omega))) only [heap_laws])
  have k1 : W0.heap[w.heap.size + 1]? = some (.cells #[.int .i64 at_] 3 (0, 0)) := (by rw [hW0]; simp (disch := (first | omega | (simp only [World.size_alloc]; done) | (simp only [World.size_alloc]; omega))) only [heap_laws])
  have k2 : W0.heap[w.heap.size + 1 + 1]? = some (.cells #[.slice (some ⟨w.heap.size + 1, 0, none⟩) 1 1] 36 (0, 0)) := (by rw [hW0]; simp (disch := (first | omega | (simp only [World.size_alloc]; done) | (simp only [World.size_alloc]; omega))) only [heap_laws])
  have hsz0 : W0.heap.size = w.heap.size + 3 := by simp [hW0]
  have hb0 : Below w.heap.size w W0 := by rw [hW0]; go_grown
  clear hW0
  have q0 := cell_blk k0 0
  simp only [List.getElem?_toArray, List.getElem?_cons_zero] at q0
  go_still_tail 5, (by kernel_rfl)
  go_wp2_with (go_at_call 146; refine (run_make _ _ _ _).mono ?_; rintro e w1 ⟨rfl, rfl⟩)
  refine wp_gen ?_
  intro W1 hW1
  have hsz : W1.heap.size = w.heap.size + 6 := by simp [hW1, hsz0]
  have hb : Below w.heap.size w W1 := hb0.trans (Below.mono (by rw [hW1]; go_grown) (by omega : w.heap.size ≤ W0.heap.size))
  have d0 : W1.heap[w.heap.size]? = some (.cells #[.int .i64 at_] 3 (0, 0)) := (by rw [hW1]; simp (disch := (first | omega | (simp only [World.size_alloc]; done) | (simp only [World.size_alloc]; omega))) only [heap_laws, k0])
  have d1 : W1.heap[w.heap.size + 1]? = some (.cells #[.int .i64 at_] 3 (0, 0)) := (by rw [hW1]; simp (disch := (first | omega | (simp only [World.size_alloc]; done) | (simp only [World.size_alloc]; omega))) only [heap_laws, k1])
  have d2 : W1.heap[w.heap.size + 1 + 1]? = some (.cells #[.slice (some ⟨w.heap.size + 1, 0, none⟩) 1 1] 36 (0, 0)) := (by rw [hW1]; simp (disch := (first | omega | (simp only [World.size_alloc]; done) | (simp only [World.size_alloc]; omega))) only [heap_laws, k2])
  have d3 : W1.heap[w.heap.size + 3]? = some (.cells #[.pointer (some ⟨p, q, none⟩)] 248 (0, 0)) := (by rw [hW1]; simp (disch := (first | omega | (simp only [World.size_alloc]; done) | (simp only [World.size_alloc]; omega))) only [heap_laws])
  have d4 : W1.heap[w.heap.size + 3 + 1]? = some (.cells #[.int .i64 s] 2 (0, 0)) := (by rw [hW1]; simp (disch := (first | omega | (simp only [World.size_alloc]; done) | (simp only [World.size_alloc]; omega))) only [heap_laws])
  have d5 : W1.heap[w.heap.size + 3 + 2]? = some (.cells #[.int .i64 at_] 3 (0, 0)) := (by rw [hW1]; simp (disch := (first | omega | (simp only [World.size_alloc]; done) | (simp only [World.size_alloc]; omega))) only [heap_laws])
  clear hW1 q0 k0 k1 k2 hsz0 hb0
  have hrow0 : W1.ownsRow w.heap.size 3 1 (.slice (some ⟨w.heap.size + 1, 0, none⟩) 1 1) 1 [.int .i64 at_] :=
    ⟨rfl, .inr ⟨w.heap.size + 1, 1, #[.int .i64 at_], rfl, by omega, d1, Nat.le_refl _, by simp [maxLen], rfl, rfl⟩⟩
  refine (wpIn_wide (n := 0)).1 ?_
  refine range_law (a₁ := ?a1) rfl (enters_of Tryz.func174 (by kernel_rfl) rfl) (run_iter w.heap.size (w.heap.size + 3) p q A n c zs s at_ W1 hp (by omega) (by omega) hn hat d3 d4 d5 ((cellOf hb hp).trans cp) (hz.below hb)) (Below.refl _ _)
    (fun k hk => by omega) (by omega) (fun _ => rfl)
    (fun i W => Below w.heap.size w W ∧ W.heap[w.heap.size]? = some (.cells #[.int .i64 at_] 3 (0, 0)) ∧ ∃ v, Boxed W (w.heap.size + 1 + 1) 36 v ∧
      W.ownsRow w.heap.size 3 1 v ((List.range (i + 1)).filter fun j => j % 2 == 0).length (((List.range (i + 1)).filter fun j => j % 2 == 0).map fun j => .int .i64 ((at_ + j : Nat) : Int)) ∧
      (∀ g, v.ownBlock = some g → ¬ (g = w.heap.size ∨ w.heap.size + 3 ≤ g ∧ g < w.heap.size + 3 + 3)))
    (fun i c W => False)
    (fun i X Y hi hm => by
      obtain ⟨h1, h0, v, h2, h3, h4⟩ := hi
      exact ⟨Below.moves h1 hm (Nat.le_refl _) (fun k hk => by omega), hm.cells h0 (by omega), v, hm.cells h2 (by omega), ownsRow_moves h3 hm (fun g hg ho => h4 g hg (.inr ho)), h4⟩)
    (fun i c X Y hi hm => hi)
    ⟨hb, d0, _, d2, by simpa [List.range_succ] using hrow0, fun g hg => by simp [Value.ownBlock] at hg; omega⟩ ?assign ?body ?done ?stop
  case assign =>
    intro l i W K hK
    gi_wp2
    exact hK
  case body =>
    rintro l i W hi ⟨hbW, hat0, v, hv, hrow, hgO⟩ hsW
    have e0 := hv.cell
    have e1 := cell_blk hat0 0
    simp only [List.getElem?_toArray, List.getElem?_cons_zero] at e1
    have hlt : w.heap.size + 1 + 1 < W.heap.size := by omega
    have hNi : i < 1000000 := by omega
    have hfl : ((List.range (i + 1)).filter fun j => j % 2 == 0).length ≤ 1000000 := Nat.le_trans (List.length_filter_le _ _) (by simp; omega)
    have hfs := range_filter_succ (i + 1) (fun j => j % 2 == 0)
    generalize ((List.range (i + 1)).filter fun j => j % 2 == 0) = L at *
    by_cases hev : (i + 1) % 2 = 0
    · rw [if_pos (by simpa using hev)] at hfs
      have Hfs := Lib.hid hfs
      clear hfs
      have ht : (((at_ : Int) + i + 1 - at_) % 2 == 0) = true := by simp; omega
      gi_wp2_with (gi_at_builtin; refine wpListIn_append_at _ rfl _ _ 36 rfl w.heap.size 3 i0 (.int .i64 0) 1 8 Tryz.underlying36 hi0 hz0 hz1 hz2 rfl (by decide) _ _ _ rfl (hrow.alloc _) ⟨W.heap.size, 0, none⟩ 1 1 [.int .i64 ((at_ : Int) + i + 1)] rfl rfl (cell_one_new _ _ _) (by simp [Value.oneCell']) (by simp only [maxLen]; omega) (by omega) (by simp; omega) ?_; intro v' w1 hown' hgrow hat'; obtain ⟨g', cap', rfl⟩ := ownsRow_succ hown'; have hap := boxed_appendedK (O := fun k => k = w.heap.size ∨ w.heap.size + 3 ≤ k ∧ k < w.heap.size + 3 + 3) hv (by decide) hrow (by omega) (by omega) (by simp; omega) (fun k (hk : k = w.heap.size ∨ w.heap.size + 3 ≤ k ∧ k < w.heap.size + 3 + 3) => by omega) hgO hown' hgrow hat'; obtain ⟨hv1, hv2, hr2, hk2, hb2, hg2⟩ := hap; have hc1 := hv1.cell; have hf1 := hv1.frozen)
      have hL : L.map (fun j => Value.int .i64 ((at_ + j : Nat) : Int)) ++ [.int .i64 ((at_ : Int) + i + 1)] = (L ++ [i + 1]).map fun j => .int .i64 ((at_ + j : Nat) : Int) := by
        rw [List.map_append, List.map_singleton, show ((at_ + (i + 1) : Nat) : Int) = (at_ : Int) + i + 1 by omega]
      rw [hL] at hr2
      refine ⟨hk2.less (fun k hk => .inr hk), hbW.trans hb2, (hk2.own _ (.inl rfl)).trans hat0, _, hv2, ?_, hg2⟩
      rw [Hfs.out, List.length_append]; exact hr2
    · rw [if_neg (by simpa using hev), List.append_nil] at hfs
      have Hfs := Lib.hid hfs
      clear hfs
      have ht : (((at_ : Int) + i + 1 - at_) % 2 == 0) = false := by simp; omega
      gi_wp2
      refine ⟨Keeps.refl _ _ _, hbW, hat0, v, hv, ?_, hgO⟩
      rw [Hfs.out]; exact hrow
  case done =>
    rintro D W hD ⟨hbW, hat0, v, hv, hrow, hgO⟩ hK
    have e0 := hv.cell
    rw [range_filter_zero (runLen s zs at_)] at hrow
    obtain ⟨g, cap, rfl⟩ := ownsRow_succ hrow
    go_wp2
    refine ⟨by simp, .inl ⟨_, _, rfl, run_takeDeferred hK, ?_⟩⟩
    refine ⟨_, results_tmp rfl _ _ _, _, _, _, rfl, ?_, ?_⟩
    · have h1 := ownsRow_putObj hrow (.deferred none) hK rfl
      rw [stepL_pairs, range_filter_zero (runLen s zs at_)]
      exact Ints.of_own (by rw [List.map_map]; exact h1)
    · exact hbW.trans ⟨rfl, rfl, rfl, by simp, fun k hk => World.putObj_heap_other (by omega)⟩
  case stop =>
    rintro D i c W hD hi h hK
    exact h.elim
end Go.Vir
