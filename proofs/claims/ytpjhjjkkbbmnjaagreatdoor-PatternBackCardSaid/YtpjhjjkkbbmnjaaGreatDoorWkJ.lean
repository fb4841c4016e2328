/- class.Classes. -/
import Derived.Test.YtpjhjjkkbbmnjaaGreatDoorWkI
namespace Go.Vir
open Go Go.RowKit Go.Proofs Go.Shelf
attribute [local go_sem] Oper.semAt_some

set_option maxRecDepth 100000 in
set_option maxHeartbeats 800000 in
theorem class_Classes (s : Int) (w : World) :
    Calls Tryz.prog 132 #[.int .i64 s] w fun e w' =>
      ∃ A' n' c', e = .returned (.slice A' n' c') ∧ Ints w' w'.heap.size A' n' (bitsL s 32) ∧ Below w.heap.size w w' := by
  obtain ⟨i0, hi0, hz0, hz1, hz2⟩ := info_parts int_info
  have hN := bitsL_len s 32
  refine (callsIn_wide (n := 0)).1 ?_
  refine callsIn_of_wp_marks Tryz.func132 rfl trivial ?_ rfl
  simp only [Tryz.ntmps132, List.size_toArray, List.length_cons, List.length_nil, Nat.reduceAdd, Nat.reduceSub, Array.replicate_succ, Array.replicate_zero, List.push_toArray, List.append_toArray, List.nil_append, List.cons_append]
  refine wpIn_wide.2 ?_
  go_wp2_with (go_at_call 165; refine (classes_make _ _).mono ?_; rintro e w1 ⟨rfl, rfl⟩)
  refine wp_gen ?_
  intro W1 hW1
  have hsz : W1.heap.size = w.heap.size + 2 := by simp [hW1]
  have hb : Below w.heap.size w W1 := by rw [hW1]; go_grown
  have d0 : W1.heap[w.heap.size]? = some (.cells #[.slice none 0 0] 36 (0, 0)) := (by rw [hW1]; simp (disch := (first | omega | (simp only [World.size_alloc]; done) | (simp only [World.size_alloc]; omega))) only [heap_laws])
  have d1 : W1.heap[w.heap.size + 1]? = some (.cells #[.int .i64 s] 2 (0, 0)) := (by rw [hW1]; simp (disch := (first | omega | (simp only [World.size_alloc]; done) | (simp only [World.size_alloc]; omega))) only [heap_laws])
  clear hW1
  refine (wpIn_wide (n := 0)).1 ?_
  refine range_law (a₁ := ?a1) rfl (enters_of Tryz.func183 (by kernel_rfl) rfl) (classes_iter w.heap.size (w.heap.size + 1) s W1 (by omega) (by omega) d1) (Below.refl _ _)
    (fun k hk => by omega) (by omega) (fun _ => rfl)
    (fun i W => Below w.heap.size w W ∧ ∃ v, Boxed W w.heap.size 36 v ∧ W.ownsRow w.heap.size 3 1 v i (((bitsL s 32).take i).map fun z => .int .i64 z) ∧ (∀ g, v.ownBlock = some g → ¬ (g = w.heap.size + 1)))
    (fun i c W => False)
    (fun i X Y hi hm => by
      obtain ⟨h1, v, h2, h3, h4⟩ := hi
      exact ⟨Below.moves h1 hm (Nat.le_refl _) (fun k hk => by omega), v, hm.cells h2 (by omega), ownsRow_moves h3 hm h4, h4⟩)
    (fun i c X Y hi hm => hi)
    ⟨hb, _, d0, World.ownsRow_nil _ _ _ _, fun g hg => by simp [Value.ownBlock] at hg⟩ ?assign ?body ?done ?stop
  case assign =>
    intro l i W K hK
    gi_wp2
    exact hK
  case body =>
    rintro l i W hi ⟨hbW, v, hv, hrow, hgO⟩ hsW
    have e0 := hv.cell
    have hlt : w.heap.size < W.heap.size := by omega
    have hNi : i < 1000000 := by omega
    have hL : ((bitsL s 32).take i).map (fun z => Value.int .i64 z) ++ [.int .i64 ((bitsL s 32)[i])] = ((bitsL s 32).take (i + 1)).map fun z => Value.int .i64 z := by
      rw [List.take_add_one, List.map_append, List.getElem?_eq_getElem hi]; rfl
    have HL := Lib.hid hL
    clear hL
    gi_wp2_with (gi_at_builtin; refine wpListIn_append_at _ rfl _ _ 36 rfl w.heap.size 3 i0 (.int .i64 0) 1 8 Tryz.underlying36 hi0 hz0 hz1 hz2 rfl (by decide) _ _ _ rfl (hrow.alloc _) ⟨W.heap.size, 0, none⟩ 1 1 [.int .i64 ((bitsL s 32)[i])] rfl rfl (cell_one_new _ _ _) (by simp [Value.oneCell']) (by simp only [maxLen]; omega) (by omega) (by simp; omega) ?_; intro v' w1 hown' hgrow hat'; obtain ⟨g', cap', rfl⟩ := ownsRow_succ hown'; have hap := boxed_appendedK (O := fun k => k = w.heap.size + 1) hv (by decide) hrow (by omega) (by omega) (by simp) (fun k (hk : k = w.heap.size + 1) => by omega) hgO hown' hgrow hat'; obtain ⟨hv1, hv2, hr2, hk2, hb2, hg2⟩ := hap; have hc1 := hv1.cell; have hf1 := hv1.frozen)
    rw [HL.out] at hr2
    exact ⟨hk2, hbW.trans hb2, _, hv2, hr2, hg2⟩
  case done =>
    rintro D W hD ⟨hbW, v, hv, hrow, hgO⟩ hK
    have e0 := hv.cell
    rw [List.take_length] at hrow
    obtain ⟨A, n, c, rfl⟩ : ∃ A n c, v = .slice A n c := by
      rcases hrow.2 with ⟨h, _⟩ | ⟨g, cap, cur, h, _⟩ <;> exact ⟨_, _, _, h⟩
    have hn : n = (bitsL s 32).length := by
      rcases hrow.2 with ⟨h, h2⟩ | ⟨g, cap, cur, h, _⟩
      · cases h; exact h2.symm
      · cases h; rfl
    rw [← hn] at hrow
    clear hn
    go_wp2
    refine ⟨by simp, .inl ⟨_, _, rfl, run_takeDeferred hK, ?_⟩⟩
    refine ⟨_, results_tmp rfl _ _ _, _, _, _, rfl, ?_, ?_⟩
    · exact Ints.of_own (ownsRow_putObj hrow (.deferred none) hK rfl)
    · exact hbW.trans ⟨rfl, rfl, rfl, by simp, fun k hk => World.putObj_heap_other (by omega)⟩
  case stop =>
    rintro D i c W hD hi h hK
    exact h.elim
end Go.Vir
