/- Joined texts: Field, RlC, ShelfB, WkS, WkT, WkU. -/
import Derived.Test.YthkgnhfhjhcecaaGreatDoorBa
import Derived.Test.YthkgnhfhjhcecaaGreatDoorBd
import Derived.Test.YthkgnhfhjhcecaaGreatDoorProg
import Derived.Test.YthkgnhfhjhcecaaGreatDoorShelf
import Derived.Deep.RegionHeld3
import Derived.Shelf.Strings.BuilderRune
import Derived.BigCall
import Derived.Laws.IdiomStrings
/- A slice in a field of a struct of the call's own, appended to. No program. -/
namespace Go.Vir
open Go Go.RowKit

section
variable {W w1 : World} {n₀ B j : Nat} {cs : Array Value} {t e : TypeId} {size : Nat} {v v' u : Value} {k m : Nat} {xs ys : List Value} {tmp : Obj}

theorem blk_not_row (h : W.heap[B]? = some (.cells cs t (0, 0))) (hte : t ≠ e) (hr : W.ownsRow n₀ e size v k xs) : some B ≠ v.ownBlock := by
  rcases hr.2 with ⟨rfl, _⟩ | ⟨g, cap, cur, rfl, _, hgb, _⟩
  · simp [Value.ownBlock]
  · intro e'
    obtain rfl : B = g := by simpa [Value.ownBlock] using e'
    rw [h] at hgb
    simp at hgb
    exact hte hgb.2
theorem grownBy_setCell2 (W : World) (b j : Nat) (v : Value) : W.grownBy (W.setCell ⟨b, j, none⟩ v) (some b) :=
  ⟨rfl, rfl, rfl, by simp [World.setCell], fun k hk hne => Below.heap_setCell _ _ _ _ (fun e => hne (by rw [e]))⟩
theorem setCell_blk (h : W.heap[B]? = some (.cells cs t (0, 0))) (j : Nat) (u : Value) : (W.setCell ⟨B, j, none⟩ u).heap[B]? = some (.cells (cs.setIfInBounds j u) t (0, 0)) := by
  simp [World.setCell, Array.getElem?_modify, h]

theorem field_appended (hb : W.heap[B]? = some (.cells cs t (0, 0))) (hte : t ≠ e) (hrow : W.ownsRow n₀ e size v k xs) (hn₀ : n₀ ≤ W.heap.size) (hB : n₀ ≤ B)
    (hown' : w1.ownsRow n₀ e size v' m ys) (hgrow : (W.alloc tmp).grownBy w1 v.ownBlock) :
    w1.heap[B]? = some (.cells cs t (0, 0)) ∧ (w1.setCell ⟨B, j, none⟩ v').heap[B]? = some (.cells (cs.setIfInBounds j v') t (0, 0)) ∧ (w1.setCell ⟨B, j, none⟩ v').ownsRow n₀ e size v' m ys ∧
      Below n₀ W (w1.setCell ⟨B, j, none⟩ v') ∧ (∀ (b : Nat) (cs' : Array Value) (t' : TypeId), W.heap[b]? = some (.cells cs' t' (0, 0)) → t' ≠ e → b ≠ B → (w1.setCell ⟨B, j, none⟩ v').heap[b]? = some (.cells cs' t' (0, 0))) := by
  have hkeep : ∀ (b : Nat) (cs' : Array Value) (t' : TypeId), W.heap[b]? = some (.cells cs' t' (0, 0)) → t' ≠ e → w1.heap[b]? = some (.cells cs' t' (0, 0)) := fun b cs' t' h ht => by
    have hlt := (Array.getElem?_eq_some_iff.1 h).1
    exact (hgrow.block b (by simp; omega) (blk_not_row h ht hrow)).trans ((Below.heap_alloc W tmp b hlt).trans h)
  have h1 := hkeep B cs t hb hte
  refine ⟨h1, setCell_blk h1 j v', hown'.kept (grownBy_setCell2 w1 B j v') (.inr (blk_not_row h1 hte hown').symm), ?_, fun b cs' t' h ht hne => ?_⟩
  · refine (((Below.refl n₀ W).alloc hn₀ tmp).grown hgrow (by simp; omega) fun i ei => ?_).setCell (p := ⟨B, j, none⟩) hB v'
    rcases hrow.2 with ⟨rfl, _⟩ | ⟨g, cap, cur, rfl, hb, _, _⟩
    · simp [Value.ownBlock] at ei
    · obtain rfl : g = i := by simpa [Value.ownBlock] using ei
      exact hb
  · exact (Below.heap_setCell _ _ _ _ hne).trans (hkeep b cs' t' h ht)

theorem field_appended2 {n₁ : Nat} (hb : W.heap[B]? = some (.cells cs t (0, 0))) (hte : t ≠ e) (hrow : W.ownsRow n₁ e size v k xs) (hn₁ : n₁ ≤ W.heap.size) (hn₀ : n₀ ≤ n₁) (hB : n₀ ≤ B)
    (hown' : w1.ownsRow n₁ e size v' m ys) (hgrow : (W.alloc tmp).grownBy w1 v.ownBlock) :
    w1.heap[B]? = some (.cells cs t (0, 0)) ∧ (w1.setCell ⟨B, j, none⟩ v').heap[B]? = some (.cells (cs.setIfInBounds j v') t (0, 0)) ∧ (w1.setCell ⟨B, j, none⟩ v').ownsRow n₁ e size v' m ys ∧
      Below n₀ W (w1.setCell ⟨B, j, none⟩ v') ∧ (∀ b : Nat, b < n₁ → b ≠ B → (w1.setCell ⟨B, j, none⟩ v').heap[b]? = W.heap[b]?) := by
  have hlow : ∀ g, v.ownBlock = some g → n₁ ≤ g := fun g hg => (row_data hrow g hg).1
  have hkeep : ∀ b : Nat, b < W.heap.size → some b ≠ v.ownBlock → w1.heap[b]? = W.heap[b]? := fun b hlt ht => (hgrow.block b (by simp; omega) ht).trans (Below.heap_alloc W tmp b hlt)
  have h1 : w1.heap[B]? = some (.cells cs t (0, 0)) := (hkeep B (Array.getElem?_eq_some_iff.1 hb).1 (blk_not_row hb hte hrow)).trans hb
  refine ⟨h1, setCell_blk h1 j v', hown'.kept (grownBy_setCell2 w1 B j v') (.inr (blk_not_row h1 hte hown').symm), ?_, fun b h hne => ?_⟩
  · exact (((Below.refl n₀ W).alloc (by omega) tmp).grown hgrow (by simp; omega) fun i ei => by have := hlow i ei; omega).setCell (p := ⟨B, j, none⟩) hB v'
  · exact (Below.heap_setCell _ _ _ _ hne).trans (hkeep b (by omega) (fun e' => by have := hlow b e'.symm; omega))
end
end Go.Vir

/- The walks of rule: what is said of a place. -/
namespace Go.Vir
open Go Go.RowKit Go.Proofs Go.Shelf
attribute [local go_sem] Oper.semAt_some

theorem idx_lt {zs : List Int} {a : Int} {rs : List RuleV} {m i : Nat} (h : i < (idxL zs a rs m).length) : (idxL zs a rs m).getD i 0 < m ∧ (idxL zs a rs m).getD i 0 = (idxL zs a rs m)[i] := by
  have h1 : (idxL zs a rs m).getD i 0 = (idxL zs a rs m)[i] := by simp [List.getD_eq_getElem?_getD, h]
  refine ⟨?_, h1⟩
  rw [h1]
  have := List.getElem_mem h
  unfold idxL at this
  exact List.mem_range.1 (List.mem_filter.1 this).1

set_option maxRecDepth 100000 in
set_option maxHeartbeats 4000000 in
theorem judge_say (p q : Nat) (A B : Option Addr) (m c n cz : Nat) (rs : List RuleV) (zs : List Int) (a : Int) (w : World) (hp : p < w.heap.size) (cp : w.cell? ⟨p, q, none⟩ = some (.slice A m c)) (cq : w.cell? ⟨p, q + 1, none⟩ = some (.slice B n cz))
    (hx : Rls w w.heap.size A m rs) (hz : Ints w w.heap.size B n zs) (hm : m ≤ 1000000) (hn : n ≤ 1000) (hnc : n ≤ cz) :
    Calls Tryz.prog 102 #[.pointer (some ⟨p, q, none⟩), .int .i64 a] w fun e w' => e = .returned (.agg #[.bool (sayB zs a rs 0).1, .int .i64 (sayB zs a rs 0).2]) ∧ Below w.heap.size w w' := by
  have hsay := say_idx zs a rs []
  simp only [List.length_nil, List.nil_append] at hsay
  rw [show idxL zs a rs 0 = [] from rfl, List.length_nil, List.drop_zero, hx.len] at hsay
  have Hsay := Lib.hid hsay
  have Hlen := Lib.hid hx.len
  have Hx := Lib.hid hx
  have Hz := Lib.hid hz
  clear hsay hx hz
  have k0 : (w.alloc (.cells #[.bool false, .int .i64 0] 156)).cell? ⟨p, q, none⟩ = some (.slice A m c) := (cellOf (B := w.heap.size) (w := w) (by go_grown) hp).trans cp
  have k1 : (w.alloc (.cells #[.bool false, .int .i64 0] 156)).cell? ⟨p, q + 1, none⟩ = some (.slice B n cz) := (cellOf (B := w.heap.size) (w := w) (by go_grown) hp).trans cq
  refine (callsIn_wide (n := 0)).1 ?_
  refine callsIn_of_wp_marks Tryz.func102 rfl trivial ?_ rfl
  simp only [Tryz.ntmps102, List.size_toArray, List.length_cons, List.length_nil, Nat.reduceAdd, Nat.reduceSub, Array.replicate_succ, Array.replicate_zero, List.push_toArray, List.append_toArray, List.nil_append, List.cons_append]
  refine wpIn_wide.2 ?_
  go_upto_region 1 with fail
  refine wp_region_noPanic ?_
  refine wp_region_held_drew (S := (fun V => V.cell? ⟨p, q, none⟩ = some (.slice A m c) ∧ V.cell? ⟨p, q + 1, none⟩ = some (.slice B n cz))) (by kernel_rfl) ⟨k0, k1⟩ (fun hHeld => ?_)
  refine wpAnyH_take (i := 0) (v := .pointer (some ⟨p, q, none⟩)) rfl (by kernel_rfl) (by kernel_rfl) (by kernel_rfl) (fun _ _ _ h => h) (.inl ⟨by rfl, fun V hV => by obtain ⟨c0, c1⟩ := hV; go_simp⟩) hHeld ?_
  try simp only [Act.put, List.getElem_toArray, List.getElem_cons_zero, List.setIfInBounds_toArray, List.set_cons_zero, List.set_cons_succ]
  refine wpAnyH_take (i := 1) (v := .pointer (some ⟨p, q, none⟩)) rfl (by kernel_rfl) (by kernel_rfl) (by kernel_rfl) (fun _ _ _ h => h) (.inl ⟨by rfl, fun V hV => by obtain ⟨c0, c1⟩ := hV; go_simp⟩) hHeld ?_
  try simp only [Act.put, List.getElem_toArray, List.getElem_cons_zero, List.getElem_cons_succ, List.setIfInBounds_toArray, List.set_cons_zero, List.set_cons_succ]
  refine wpAnyH_take (i := 2) (v := .pointer (some ⟨p, q, none⟩)) rfl (by kernel_rfl) (by kernel_rfl) (by kernel_rfl) (fun _ _ _ h => h) (.inl ⟨by rfl, fun V hV => by obtain ⟨c0, c1⟩ := hV; go_simp⟩) hHeld ?_
  try simp only [Act.put, List.getElem_toArray, List.getElem_cons_zero, List.getElem_cons_succ, List.setIfInBounds_toArray, List.set_cons_zero, List.set_cons_succ]
  refine wpAnyH_take (i := 3) (v := .agg #[.slice A m c]) rfl (by kernel_rfl) (by kernel_rfl) (by kernel_rfl) (fun _ _ _ h => h) (.inl ⟨by rfl, fun V hV => by obtain ⟨c0, c1⟩ := hV; go_simp⟩) hHeld ?_
  try simp only [Act.put, List.getElem_toArray, List.getElem_cons_zero, List.getElem_cons_succ, List.setIfInBounds_toArray, List.set_cons_zero, List.set_cons_succ]
  refine wpAnyH_take (i := 4) (v := .pointer (some ⟨p, q, none⟩)) rfl (by kernel_rfl) (by kernel_rfl) (by kernel_rfl) (fun _ _ _ h => h) (.inl ⟨by rfl, fun V hV => by obtain ⟨c0, c1⟩ := hV; go_simp⟩) hHeld ?_
  try simp only [Act.put, List.getElem_toArray, List.getElem_cons_zero, List.getElem_cons_succ, List.setIfInBounds_toArray, List.set_cons_zero, List.set_cons_succ]
  refine wpAnyH_take (i := 5) (v := .pointer (some ⟨p, q, none⟩)) rfl (by kernel_rfl) (by kernel_rfl) (by kernel_rfl) (fun _ _ _ h => h) (.inl ⟨by rfl, fun V hV => by obtain ⟨c0, c1⟩ := hV; go_simp⟩) hHeld ?_
  try simp only [Act.put, List.getElem_toArray, List.getElem_cons_zero, List.getElem_cons_succ, List.setIfInBounds_toArray, List.set_cons_zero, List.set_cons_succ]
  refine wpAnyH_take (i := 6) (v := .pointer (some ⟨p, q + 1, none⟩)) rfl (by kernel_rfl) (by kernel_rfl) (by kernel_rfl) (fun _ _ _ h => h) (.inl ⟨by rfl, fun V hV => by obtain ⟨c0, c1⟩ := hV; go_simp⟩) hHeld ?_
  try simp only [Act.put, List.getElem_toArray, List.getElem_cons_zero, List.getElem_cons_succ, List.setIfInBounds_toArray, List.set_cons_zero, List.set_cons_succ]
  refine wpAnyH_take (i := 7) (v := .slice B n cz) rfl (by kernel_rfl) (by kernel_rfl) (by kernel_rfl) (fun _ _ _ h => h) (.inl ⟨by rfl, fun V hV => by obtain ⟨c0, c1⟩ := hV; go_simp⟩) hHeld ?_
  try simp only [Act.put, List.getElem_toArray, List.getElem_cons_zero, List.getElem_cons_succ, List.setIfInBounds_toArray, List.set_cons_zero, List.set_cons_succ]
  refine wpAnyH_take (i := 8) (v := .int .i64 a) rfl (by kernel_rfl) (by kernel_rfl) (by kernel_rfl) (fun _ _ _ h => h) (.inl ⟨by rfl, fun V hV => by obtain ⟨c0, c1⟩ := hV; go_simp⟩) hHeld ?_
  try simp only [Act.put, List.getElem_toArray, List.getElem_cons_zero, List.getElem_cons_succ, List.setIfInBounds_toArray, List.set_cons_zero, List.set_cons_succ]
  refine wpAnyH_ready (rs := [9]) (by kernel_rfl) (by simp) ?_
  refine AllReadyH.cons rfl (fun K hK => ?_) AllReadyH.nil
  go_simp
  refine (rules_make A B m c n cz a _).mono ?_
  rintro e W1 ⟨rfl, hW1⟩
  have t0 : W1.cell? ⟨p, q, none⟩ = some (.slice A m c) := by rw [← hW1]; exact (cellOf (B := w.heap.size) (w := w) (by go_grown) hp).trans cp
  have t1 : W1.cell? ⟨p, q + 1, none⟩ = some (.slice B n cz) := by rw [← hW1]; exact (cellOf (B := w.heap.size) (w := w) (by go_grown) hp).trans cq
  refine hK.out _ _ ⟨t0, t1⟩ (fun hHeld => ?_)
  clear hK K
  try simp only [Act.put, List.getElem_toArray, List.getElem_cons_zero, List.getElem_cons_succ, List.setIfInBounds_toArray, List.set_cons_zero, List.set_cons_succ]
  refine wpAnyH_done (by kernel_rfl) ?_ _
  refine NoPanic.normal ?_
  clear hHeld t0 t1
  have hds : ∀ X : World, X.drew.heap.size = X.heap.size := fun _ => rfl
  have hbs : (w.alloc (.cells #[.bool false, .int .i64 0] 156)).drew.heap.size = w.heap.size + 1 := by rw [hds]; simp
  simp only [hbs]
  have hW2 := hW1.symm
  clear hW1
  have hsz : W1.heap.size = w.heap.size + 4 := by rw [hW2]; simp [hds]
  have hb : Below w.heap.size w W1 := by rw [hW2]; go_grown
  have d0 : W1.heap[w.heap.size]? = some (.cells #[.bool false, .int .i64 0] 156 (0, 0)) := (by rw [hW2]; simp (disch := (first | omega | (simp only [World.size_alloc]; done) | (simp only [World.size_alloc]; omega))) only [heap_laws])
  have d1 : W1.heap[w.heap.size + 1]? = some (.cells #[.slice A m c] 152 (0, 0)) := (by rw [hW2]; simp (disch := (first | omega | (simp only [World.size_alloc]; done) | (simp only [World.size_alloc]; omega))) only [heap_laws])
  have d2 : W1.heap[w.heap.size + 1 + 1]? = some (.cells #[.slice B n cz] 88 (0, 0)) := (by rw [hW2]; simp (disch := (first | omega | (simp only [World.size_alloc]; done) | (simp only [World.size_alloc]; omega))) only [heap_laws])
  have d3 : W1.heap[w.heap.size + 1 + 2]? = some (.cells #[.int .i64 a] 3 (0, 0)) := (by rw [hW2]; simp (disch := (first | omega | (simp only [World.size_alloc]; done) | (simp only [World.size_alloc]; omega))) only [heap_laws])
  clear hW2 hbs k0 k1
  obtain ⟨V, hV⟩ := (Hx.out.below hb).vals
  have hzW := Hz.out.below hb
  go_wp2
  refine (wpIn_wide (n := 0)).1 ?_
  obtain ⟨j0, hj0⟩ : ∃ j0, j0 = (idxL zs a rs m).getD 0 0 := ⟨_, rfl⟩
  refine range_law2 rfl (enters_of Tryz.func185 (by kernel_rfl) rfl) (rules_iter w.heap.size (w.heap.size + 1) A B m c n cz rs zs a V W1 (by omega) (by omega) hm hn hnc d1 d2 d3 hV hzW) (Below.refl _ _)
    (fun k hk => by omega) (by omega) (fun _ => rfl)
    (fun i W => i = 0 ∧ Below w.heap.size w W ∧ W.heap[w.heap.size]? = some (.cells #[.bool false, .int .i64 0] 156 (0, 0)))
    (fun i c W => c = .ret ∧ i = 0 ∧ Below w.heap.size w W ∧ W.heap[w.heap.size]? = some (.cells #[.bool (rs.getD j0 default).br, .int .i64 (j0 : Int)] 156 (0, 0)))
    (fun i a' W => i = 0 ∧ Below w.heap.size w W ∧ W.heap[w.heap.size]? = some (.cells #[.bool false, .int .i64 0] 156 (0, 0)) ∧ ∃ (g j : Nat) (x : RuleV) (Al : Option Addr) (ml cl : Nat) (Ar : Option Addr) (mr cr : Nat), a' = { tmps := #[.pointer (some ⟨p, q, none⟩), .int .i64 a, undef, undef, .pointer (some ⟨w.heap.size, 0, none⟩), .int .i64 (j : Int), .pointer (some ⟨g, 0, none⟩), .pointer (some ⟨p, q, none⟩), .pointer (some ⟨p, q, none⟩), .pointer (some ⟨p, q, none⟩), .agg #[.slice A m c], .pointer (some ⟨p, q, none⟩), .pointer (some ⟨p, q, none⟩), .pointer (some ⟨p, q + 1, none⟩), .slice B n cz, .int .i64 a, .func (.func 185) #[] #[.pointer (some ⟨w.heap.size + 1, 0, none⟩), .pointer (some ⟨w.heap.size + 1 + 1, 0, none⟩), .pointer (some ⟨w.heap.size + 1 + 2, 0, none⟩)], .int .i64 (j : Int), .agg #[.bool x.sl, .slice Al ml cl, .bool x.sr, .slice Ar mr cr, .bool x.br], undef, undef, undef, undef, undef], defers := [] } ∧
      j = j0 ∧ x = rs.getD j0 default ∧ W.heap[g]? = some (.cells #[.bool x.sl, .slice Al ml cl, .bool x.sr, .slice Ar mr cr, .bool x.br] 99 (0, 0)) ∧ w.heap.size + 4 ≤ g)
    (fun i a' X Y hi hm => by
      obtain ⟨h1, h2, h3, g, j, x, Al, ml, cl, Ar, mr, cr, h4, h5, h6, h7, h8⟩ := hi
      exact ⟨h1, Below.moves h2 hm (Nat.le_refl _) (fun k hk => by omega), hm.cells h3 (by omega), g, j, x, Al, ml, cl, Ar, mr, cr, h4, h5, h6, hm.cells h7 (by omega), h8⟩)
    (fun i X Y hi hm => ⟨hi.1, Below.moves hi.2.1 hm (Nat.le_refl _) (fun k hk => by omega), hm.cells hi.2.2 (by omega)⟩)
    (fun i c X Y hi hm => ⟨hi.1, hi.2.1, Below.moves hi.2.2.1 hm (Nat.le_refl _) (fun k hk => by omega), hm.cells hi.2.2.2 (by omega)⟩)
    ⟨rfl, hb, d0⟩ ?assign ?body ?done ?stop
  case assign =>
    rintro l i W K hi ⟨rfl, hbW, hc0⟩ hsW hK
    obtain ⟨hj1, hj2⟩ := idx_lt hi
    rw [← hj0] at hj1
    obtain ⟨rb, ro, hA, hrb, hrc⟩ := hV.at_ (by omega)
    have hjr : j0 < rs.length := by rw [Hlen.out]; exact hj1
    obtain ⟨Al, ml, cl, Ar, mr, cr, hVj, _⟩ := hrc j0 hjr
    have hg : rs.getD j0 default = rs[j0] := by simp [List.getD_eq_getElem?_getD, hjr]
    rw [← hg] at hVj
    generalize rs.getD j0 default = x at *
    simp only [ruleV] at hVj
    have HK := Lib.hid hK
    clear hK hA hrc hg
    rw [← hj0, hVj]
    gi_wp2
    have e0 : (idxL zs a rs m)[0] = j0 := by rw [hj0, hj2]
    rw [e0]
    exact HK.out _ _ (by go_grown) ⟨trivial, hbW.alloc hbW.size _, by rw [heap_old (by omega)]; exact hc0, W.heap.size, j0, x, Al, ml, cl, Ar, mr, cr, rfl, rfl, rfl, heap_new rfl, by omega⟩
  case body =>
    rintro l i a' W hi ⟨rfl, hbW, hc0, g, j, x, Al, ml, cl, Ar, mr, cr, rfl, hj, hx, hg, hgl⟩ hsW
    have g4 : W.cell? ⟨g, 4, none⟩ = some (.bool x.br) := cell_blk hg 4
    have e0 : W.cell? ⟨w.heap.size, 0, none⟩ = some (.bool false) := cell_blk hc0 0
    have e1 : W.cell? ⟨w.heap.size, 1, none⟩ = some (.int .i64 0) := cell_blk hc0 1
    have f0 : W.frozen? ⟨w.heap.size, 0, none⟩ = false := frozen_blk hc0 0
    have f1 : W.frozen? ⟨w.heap.size, 1, none⟩ = false := frozen_blk hc0 1
    have hkp : Keeps w.heap.size (fun k => w.heap.size + 1 ≤ k ∧ k < w.heap.size + 1 + 3) W ((W.setCell ⟨w.heap.size, 0, none⟩ (.bool x.br)).setCell ⟨w.heap.size, 1, none⟩ (.int .i64 (j : Int))) :=
      (Keeps.setCell _ (by simp; omega) (by simp) _).trans (Keeps.setCell _ (by simp; omega) (by simp) _)
    have hbX : Below w.heap.size w ((W.setCell ⟨w.heap.size, 0, none⟩ (.bool x.br)).setCell ⟨w.heap.size, 1, none⟩ (.int .i64 (j : Int))) :=
      (hbW.setCell (p := ⟨w.heap.size, 0, none⟩) (Nat.le_refl _) _).setCell (p := ⟨w.heap.size, 1, none⟩) (Nat.le_refl _) _
    have hcX := setCell_blk (setCell_blk hc0 0 (.bool x.br)) 1 (.int .i64 (j : Int))
    have Hj := Lib.hid hj
    have Hxx := Lib.hid hx
    clear hj hx hc0 hg
    gi_wp2
    refine ⟨hkp, rfl, rfl, hbX, ?_⟩
    rw [← Hxx.out, ← Hj.out]
    exact hcX
  case done =>
    rintro D W hD ⟨hN, hbW, hc0⟩ hK
    have hnil : idxL zs a rs m = [] := List.eq_nil_of_length_eq_zero hN
    have hval : sayB zs a rs 0 = (true, -1) := by rw [Hsay.out, hnil]
    have Hval := Lib.hid hval
    clear hnil hN hval
    have e0 : W.cell? ⟨w.heap.size, 0, none⟩ = some (.bool false) := cell_blk hc0 0
    have e1 : W.cell? ⟨w.heap.size, 1, none⟩ = some (.int .i64 0) := cell_blk hc0 1
    have f0 : W.frozen? ⟨w.heap.size, 0, none⟩ = false := frozen_blk hc0 0
    have f1 : W.frozen? ⟨w.heap.size, 1, none⟩ = false := frozen_blk hc0 1
    go_wp2
    have hne : w.heap.size ≠ D := by omega
    have hbX : Below w.heap.size w ((W.setCell ⟨w.heap.size, 0, none⟩ (.bool true)).setCell ⟨w.heap.size, 1, none⟩ (.int .i64 (-1))) :=
      (hbW.setCell (p := ⟨w.heap.size, 0, none⟩) (Nat.le_refl _) _).setCell (p := ⟨w.heap.size, 1, none⟩) (Nat.le_refl _) _
    have hcX := setCell_blk (setCell_blk hc0 0 (.bool true)) 1 (.int .i64 (-1))
    have hK2 : ((W.setCell ⟨w.heap.size, 0, none⟩ (.bool true)).setCell ⟨w.heap.size, 1, none⟩ (.int .i64 (-1))).heap[D]? = some (.deferred (some [])) := by
      rw [Below.heap_setCell _ _ _ _ (Ne.symm hne), Below.heap_setCell _ _ _ _ (Ne.symm hne)]; exact hK
    refine ⟨by simp, .inl ⟨_, _, rfl, run_takeDeferred hK2, ?_⟩⟩
    have f2 := cell_blk ((World.putObj_heap_other (o := .deferred none) hne).trans hcX) 0
    have f3 := cell_blk ((World.putObj_heap_other (o := .deferred none) hne).trans hcX) 1
    simp only [List.setIfInBounds_toArray, List.set_cons_zero, List.set_cons_succ, List.getElem?_toArray, List.getElem?_cons_zero, List.getElem?_cons_succ] at f2 f3
    refine ⟨.agg #[.bool true, .int .i64 (-1)], by simp [results, Tryz.results102, go_sem, f2, f3], ?_, ?_⟩
    · rw [Hval.out]
    · exact hbX.trans ⟨rfl, rfl, rfl, by simp, fun k hk => World.putObj_heap_other (by omega)⟩
  case stop =>
    rintro D i cc W hD hi ⟨rfl, rfl, hbW, hc0⟩ hK
    obtain ⟨hj1, hj2⟩ := idx_lt hi
    have hval : sayB zs a rs 0 = ((rs.getD j0 default).br, (j0 : Int)) := by
      rw [Hsay.out]
      rcases hl : idxL zs a rs m with _ | ⟨y, t⟩
      · rw [hl] at hi; exact absurd hi (by simp)
      · have : j0 = y := by rw [hj0, hl]; rfl
        rw [this]
    have Hval := Lib.hid hval
    clear hval hj1 hj2
    gi_wp2
    have hne : w.heap.size ≠ D := by omega
    refine ⟨by simp, .inl ⟨_, _, rfl, run_takeDeferred hK, ?_⟩⟩
    have f2 := cell_blk ((World.putObj_heap_other (o := .deferred none) hne).trans hc0) 0
    have f3 := cell_blk ((World.putObj_heap_other (o := .deferred none) hne).trans hc0) 1
    simp only [List.getElem?_toArray, List.getElem?_cons_zero, List.getElem?_cons_succ] at f2 f3
    refine ⟨.agg #[.bool (rs.getD j0 default).br, .int .i64 (j0 : Int)], by simp [results, Tryz.results102, go_sem, f2, f3], ?_, ?_⟩
    · rw [Hval.out]
    · exact hbW.trans ⟨rfl, rfl, rfl, by simp, fun k hk => World.putObj_heap_other (by omega)⟩
end Go.Vir

/- strings.Builder.WriteRune, laid by hand (the one command falls at this dump: its bodies name two types of the closure nowhere). -/
namespace Go.Proofs
open Go.Shelf
def Tryz.lays168_ren : Go.Shelf.Ren := ⟨fun | 168 => 153 | 240 => 104 | 242 => 200 | 276 => 145 | 278 => 234 | n => n, fun | 0 => 0 | 3 => 3 | 4 => 4 | 5 => 5 | 9 => 9 | 20 => 20 | 21 => 21 | 37 => 102 | 46 => 272 | 51 => 309 | 70 => 101 | 72 => 104 | 75 => 65 | 76 => 105 | 80 => 108 | 164 => 195 | n => n, fun | n => n⟩
theorem Tryz.lays168 : Go.Proofs.Lays.n168 Tryz.prog Tryz.lays168_ren := {
  mixed := by kernel_rfl
  f168 := Tryz.func153.trans (congrArg some (by kernel_rfl))
  f240 := Tryz.func104.trans (congrArg some (by kernel_rfl))
  f242 := Tryz.func200.trans (congrArg some (by kernel_rfl))
  f276 := Tryz.func145.trans (congrArg some (by kernel_rfl))
  f278 := Tryz.func234.trans (congrArg some (by kernel_rfl))
  t0 := Tryz.underlying0
  a0 := Tryz.isAgg0
  z0 := Tryz.sizeOf0
  v0 := Tryz.zeroValue0
  t3 := Tryz.underlying3
  a3 := Tryz.isAgg3
  z3 := Tryz.sizeOf3
  v3 := Tryz.zeroValue3
  t4 := Tryz.underlying4
  a4 := Tryz.isAgg4
  z4 := Tryz.sizeOf4
  v4 := Tryz.zeroValue4
  t5 := Tryz.underlying5
  a5 := Tryz.isAgg5
  z5 := Tryz.sizeOf5
  v5 := Tryz.zeroValue5
  t9 := Tryz.underlying9
  a9 := Tryz.isAgg9
  z9 := Tryz.sizeOf9
  v9 := Tryz.zeroValue9
  t20 := Tryz.underlying20
  a20 := Tryz.isAgg20
  z20 := Tryz.sizeOf20
  v20 := Tryz.zeroValue20
  t21 := Tryz.underlying21
  a21 := Tryz.isAgg21
  z21 := Tryz.sizeOf21
  v21 := Tryz.zeroValue21
  t37 := Tryz.underlying102
  a37 := Tryz.isAgg102
  z37 := Tryz.sizeOf102
  v37 := Tryz.zeroValue102
  t46 := Tryz.underlying272
  a46 := Tryz.isAgg272
  z46 := Tryz.sizeOf272
  v46 := Tryz.zeroValue272
  t51 := Tryz.underlying309
  a51 := Tryz.isAgg309
  z51 := Tryz.sizeOf309
  v51 := Tryz.zeroValue309
  t70 := Tryz.underlying101
  a70 := Tryz.isAgg101
  z70 := Tryz.sizeOf101
  v70 := Tryz.zeroValue101
  t72 := Tryz.underlying104
  a72 := Tryz.isAgg104
  z72 := Tryz.sizeOf104
  v72 := Tryz.zeroValue104
  t75 := Tryz.underlying65
  a75 := Tryz.isAgg65
  z75 := Tryz.sizeOf65
  v75 := Tryz.zeroValue65
  t164 := Tryz.underlying195
  a164 := Tryz.isAgg195
  z164 := Tryz.sizeOf195
  v164 := Tryz.zeroValue195 }
theorem Tryz.Builder_Extra_168 : Builder.Extra Tryz.prog Tryz.lays168_ren := {
  sizeBuilder := by kernel_rfl
  liesBuilder := by kernel_rfl
  t5 := Tryz.underlying5
  a5 := Tryz.isAgg5
  z5 := Tryz.sizeOf5
  v5 := Tryz.zeroValue5
  infoByte := by kernel_rfl
  cellsByte := by kernel_rfl
  sizeByte := by kernel_rfl
  neB5 := by decide }
open Go.RowKit in
theorem Tryz.Builder_WriteRune_k (B b : Nat) (bs : List Value) (r : Int) (hr0 : -2147483648 ≤ r) (hr1 : r ≤ 2147483647) (w : World) (h : Lib.IsBuilderF 104 5 B b bs w) (hlen : bs.length + 4 ≤ 140737488355328) (hBw : B ≤ w.heap.size) :
    Calls Tryz.prog 153 #[.pointer (some ⟨b, 0, none⟩), .int .i32 r] w fun e w' => e = .returned (.tuple #[.int .i64 (Lib.runeCells r).length, .nilIface]) ∧ (Lib.BuilderAtF 104 5 B b (.pointer (some ⟨b, 0, none⟩)) (bs ++ Lib.runeCells r) w' ∧ Below B w w' ∧ Lib.OthersKept 5 (some b) w w') := Any.Builder_WriteRune_k Tryz.lays168 Tryz.Builder_Extra_168 B b bs r hr0 hr1 w h hlen hBw
end Go.Proofs

/- pattern: the parts of a text. -/
namespace Go.Vir
open Go Go.RowKit Go.Proofs Go.Shelf
attribute [local go_sem] Oper.semAt_some

/-- What a sign becomes, and whether what follows stands in brackets. -/
def mark1 (isIn : Bool) (c : Int) : Int × Bool :=
  if c = 91 then (91, true) else if c = 93 then (93, false) else if c = 32 then (if isIn then (32, true) else (10, false)) else (c, isIn)
/-- A text of ASCII signs, its blanks outside of brackets turned into ends of lines. -/
def marksA : Bool → List UInt8 → List UInt8
  | _, [] => []
  | i, b :: t => (mark1 i b.toNat).1.toNat.toUInt8 :: marksA (mark1 i b.toNat).2 t
def asciiB (l : List UInt8) : Bool := l.all fun b => decide (b.toNat < 128)
/-- The parts of a text of ASCII signs. -/
def partsA (s : List UInt8) : List (List UInt8) := splitL 10 (marksA false s)

theorem mark1_ascii (i : Bool) (c : Int) (h0 : 0 ≤ c) (h1 : c < 128) : 0 ≤ (mark1 i c).1 ∧ (mark1 i c).1 ≤ 127 := by
  unfold mark1
  repeat' split
  all_goals simp
  all_goals omega
theorem mark1_range (i : Bool) (c : Int) (h0 : 0 ≤ c) (h1 : c ≤ 2147483647) : -2147483648 ≤ (mark1 i c).1 ∧ (mark1 i c).1 ≤ 2147483647 := by
  unfold mark1
  repeat' split
  all_goals simp
  all_goals omega

theorem decode_width_pos (s : ByteArray) (pos : Nat) (h : pos < s.size) : 1 ≤ (Utf8.decode s pos).2 := by
  by_cases ha : (s[pos]'h).toNat < 128
  · rw [decode_ascii s pos h ha]
    exact Nat.le_refl _
  · exact (decode_high s pos h (by omega)).2

theorem marks_ascii {s : ByteArray} {pos : Nat} (h : pos < s.size) (hA : asciiB s.data.toList = true) (i : Bool) (acc : List UInt8) (hacc : acc ++ marksA i (s.data.toList.drop pos) = marksA false s.data.toList) :
    (acc ++ Lib.encodeRune (mark1 i (Utf8.decode s pos).1).1) ++ marksA (mark1 i (Utf8.decode s pos).1).2 (s.data.toList.drop (pos + (Utf8.decode s pos).2)) = marksA false s.data.toList := by
  have hl : pos < s.data.toList.length := by simpa using h
  have hg : s[pos]'h = s.data.toList[pos] := rfl
  have ha : (s[pos]'h).toNat < 128 := by
    have := List.all_eq_true.1 hA _ (List.getElem_mem hl)
    rw [hg]
    simpa using this
  rw [decode_ascii s pos h ha]
  rw [List.drop_eq_getElem_cons hl, marksA, ← hg] at hacc
  have hm := mark1_ascii i (s[pos]'h).toNat (by omega) (by omega)
  rw [show Lib.encodeRune (mark1 i ((s[pos]'h).toNat : Int)).1 = [(mark1 i ((s[pos]'h).toNat : Int)).1.toNat.toUInt8] by rw [Lib.encodeRune, Lib.encodeRuneZ_one hm.1 hm.2]; rfl]
  rw [← hacc]
  simp
theorem encode_len (r : Int) : (Lib.encodeRune r).length ≤ 4 := by
  have := Lib.runeCells_le r
  rw [Lib.runeCells_length] at this
  exact this.2

/-- How the parting of a text ends. -/
def PartsEnd (s : List UInt8) (e : Ending) (w' : World) : Prop := ∃ A n l, e = .returned (.slice A n n) ∧ Strs w' w'.heap.size A n l ∧ l ≠ [] ∧ n ≤ 1000001 ∧ (asciiB s = true → l = partsA s)

set_option maxHeartbeats 4000000 in
set_option maxRecDepth 1000000 in
theorem pattern_parts (s : ByteArray) (w : World) (hG : Globs w) (hs : s.size ≤ 100000) :
    Calls Tryz.prog 111 #[.string s] w fun e w' => PartsEnd s.data.toList e w' ∧ Below w.heap.size w w' := by
  go_enter Tryz.func111, Tryz.ntmps111
  go_wp2
  go_loopw [3] (fun v wr => ∃ (pos : Nat) (acc : List UInt8) (i : Bool), v = .bool i ∧ Lib.IsBuilderF 104 5 w.heap.size w.heap.size (Lib.byteCells acc) wr ∧ wr.heap[w.heap.size + 1]? = some (.stringIter s pos) ∧ Below w.heap.size w wr ∧
      acc.length + 4 * (s.size - pos) ≤ 4 * s.size ∧ (asciiB s.data.toList = true → acc ++ marksA i (s.data.toList.drop pos) = marksA false s.data.toList)) (fun _ wr => s.size - wr.iterPos (w.heap.size + 1))
  case atStart =>
    refine ⟨0, [], false, rfl, (Lib.IsBuilderF.of (Lib.fresh_isBuilder 104 5 w)).alloc _, ?_, ((Below.refl _ w).alloc (Nat.le_refl _) _).alloc (by simp) _, by simp, fun _ => rfl⟩
    have := World.iter_heap (w.alloc (.cells #[.pointer none, .slice none 0 0] 104)) s 0
    simpa using this
  case round =>
    obtain ⟨pos, acc, i, rfl, hI, hit, hbw, hal, hasc⟩ := hrel
    have hsz : w.heap.size + 1 < wr.heap.size := (Array.getElem?_eq_some_iff.1 hit).1
    by_cases hp : pos < s.size
    · have hnx : ∀ ty, (Instr.next (.pointer (some ⟨w.heap.size + 1, 0, none⟩)) true ty).run Tryz.prog wr = _ := fun ty => Lib.run_next_any_at wr (w.heap.size + 1) s pos ty hit hp
      have hwd := decode_width_pos s pos hp
      have hd1 := decode_le s pos
      have hI2 := hI.iterAt hit (pos + (Utf8.decode s pos).2)
      have hit2 := Lib.iterAt_heap wr (w.heap.size + 1) s pos (pos + (Utf8.decode s pos).2) hit
      have hbw2 := Lib.below_iterAt hbw (k := w.heap.size + 1) (by omega) s (pos + (Utf8.decode s pos).2)
      have hsz2 : w.heap.size ≤ (wr.iterAt (w.heap.size + 1) s (pos + (Utf8.decode s pos).2)).heap.size := by rw [Lib.iterAt_size]; omega
      have hasc2 := fun h => marks_ascii hp h i acc (hasc h)
      have hen := encode_len (mark1 i ((Utf8.decode s pos).1 : Int)).1
      have hal2 : (acc ++ Lib.encodeRune (mark1 i ((Utf8.decode s pos).1 : Int)).1).length + 4 * (s.size - (pos + (Utf8.decode s pos).2)) ≤ 4 * s.size := by
        rw [List.length_append]; omega
      have hcr : 0 ≤ ((Utf8.decode s pos).1 : Int) ∧ ((Utf8.decode s pos).1 : Int) ≤ 2147483647 := by omega
      have hpos2 : s.size - (pos + (Utf8.decode s pos).2) < s.size - pos := by omega
      have Hasc := Lib.hid hasc2
      have Hit2 := Lib.hid hit2
      have hwr := fun r h0 h1 => Tryz.Builder_WriteRune_k w.heap.size w.heap.size _ r h0 h1 _ hI2 (by rw [Lib.byteCells_length]; omega) hsz2
      have Hit := Lib.hid hit
      clear hasc hasc2 hit2 hen hit hd1 hwd
      generalize hc : ((Utf8.decode s pos).1 : Int) = c at *
      clear hc
      by_cases h91 : c = 91
      · subst h91
        have hm : mark1 i 91 = (91, true) := rfl
        rw [hm] at hal2 Hasc
        clear hm
        go_wp2_with (go_at_call 153; refine (hwr 91 (by omega) (by omega)).mono ?_; rintro e W1 ⟨rfl, h1, b1, k1⟩; rw [← Lib.byteCells_encodeRune, ← Lib.byteCells_append] at h1)
        go_roundw
        case rel => exact ⟨pos + (Utf8.decode s pos).2, _, true, rfl, Or.inr h1, k1.iter Hit2.out (by omega), hbw2.trans b1, hal2, Hasc.out⟩
        case measure =>
          simp only [World.iterPos, k1.iter Hit2.out (by omega), Hit.out]
          exact hpos2
      · by_cases h93 : c = 93
        · subst h93
          have hm : mark1 i 93 = (93, false) := rfl
          rw [hm] at hal2 Hasc
          clear hm
          go_wp2_with (go_at_call 153; refine (hwr 93 (by omega) (by omega)).mono ?_; rintro e W1 ⟨rfl, h1, b1, k1⟩; rw [← Lib.byteCells_encodeRune, ← Lib.byteCells_append] at h1)
          go_roundw
          case rel => exact ⟨pos + (Utf8.decode s pos).2, _, false, rfl, Or.inr h1, k1.iter Hit2.out (by omega), hbw2.trans b1, hal2, Hasc.out⟩
          case measure =>
            simp only [World.iterPos, k1.iter Hit2.out (by omega), Hit.out]
            exact hpos2
        · by_cases h32 : c = 32
          · subst h32
            rcases i with _ | _
            · have hm : mark1 false 32 = (10, false) := rfl
              rw [hm] at hal2 Hasc
              clear hm
              go_wp2_with (go_at_call 153; refine (hwr 10 (by omega) (by omega)).mono ?_; rintro e W1 ⟨rfl, h1, b1, k1⟩; rw [← Lib.byteCells_encodeRune, ← Lib.byteCells_append] at h1)
              go_roundw
              case rel => exact ⟨pos + (Utf8.decode s pos).2, _, false, rfl, Or.inr h1, k1.iter Hit2.out (by omega), hbw2.trans b1, hal2, Hasc.out⟩
              case measure =>
                simp only [World.iterPos, k1.iter Hit2.out (by omega), Hit.out]
                exact hpos2
            · have hm : mark1 true 32 = (32, true) := rfl
              rw [hm] at hal2 Hasc
              clear hm
              go_wp2_with (go_at_call 153; refine (hwr 32 (by omega) (by omega)).mono ?_; rintro e W1 ⟨rfl, h1, b1, k1⟩; rw [← Lib.byteCells_encodeRune, ← Lib.byteCells_append] at h1)
              go_roundw
              case rel => exact ⟨pos + (Utf8.decode s pos).2, _, true, rfl, Or.inr h1, k1.iter Hit2.out (by omega), hbw2.trans b1, hal2, Hasc.out⟩
              case measure =>
                simp only [World.iterPos, k1.iter Hit2.out (by omega), Hit.out]
                exact hpos2
          · have hm : mark1 i c = (c, i) := by simp [mark1, h91, h93, h32]
            rw [hm] at hal2 Hasc
            clear hm
            have e91 : (c == 91) = false := by simpa using h91
            have e93 : (c == 93) = false := by simpa using h93
            have e32 : (c == 32) = false := by simpa using h32
            go_wp2_with (go_at_call 153; refine (hwr c (by omega) (by omega)).mono ?_; rintro e W1 ⟨rfl, h1, b1, k1⟩; rw [← Lib.byteCells_encodeRune, ← Lib.byteCells_append] at h1)
            go_roundw
            case rel => exact ⟨pos + (Utf8.decode s pos).2, _, i, rfl, Or.inr h1, k1.iter Hit2.out (by omega), hbw2.trans b1, hal2, Hasc.out⟩
            case measure =>
              simp only [World.iterPos, k1.iter Hit2.out (by omega), Hit.out]
              exact hpos2
    · have hnx : ∀ ty, (Instr.next (.pointer (some ⟨w.heap.size + 1, 0, none⟩)) true ty).run Tryz.prog wr = _ := fun ty => Lib.run_next_end_at wr (w.heap.size + 1) s pos ty hit hp
      have hst := Tryz.Builder_String_any_k w.heap.size w.heap.size acc _ hI (by omega)
      obtain ⟨mm, hmm⟩ := hG.mlen
      have hgs := hG.size
      have hsp := fun W1 (hW : Below w.heap.size w W1) => split_by 10 acc mm W1 (by omega) ((cellOf hW (by omega)).trans hmm)
      have hln := splitL_length 10 acc
      have hne := splitL_ne 10 acc
      have hfin : asciiB s.data.toList = true → splitL 10 acc = partsA s.data.toList := fun h => by
        have := hasc h
        rw [List.drop_eq_nil_of_le (by simpa using Nat.le_of_not_lt hp)] at this
        unfold partsA
        rw [← this]
        simp [marksA]
      have hl1 : acc.length ≤ 400000 := by omega
      have Hsp := Lib.hid hsp
      have Hfin := Lib.hid hfin
      clear hsp hfin hasc hmm
      generalize splitL 10 acc = l at *
      go_wp2_with (first
        | (go_at_call 67; refine hst.mono ?_; rintro e W1 ⟨rfl, _, b1, _⟩; have hbW := hbw.trans b1)
        | (go_at_call 72; refine (Hsp.out W1 hbW).mono ?_; rintro e W2 ⟨A2, n2, rfl, hS2, hb2⟩))
      go_ret
      exact ⟨⟨A2, n2, l, rfl, hS2, hne, by have := hS2.len; omega, Hfin.out⟩, hbW.trans (hb2.mono hbW.size)⟩
end Go.Vir

/- pattern: an item of a part. -/
namespace Go.Vir
open Go Go.RowKit Go.Proofs Go.Shelf
attribute [local go_sem] Oper.semAt_some

/-- A part's item. -/
def itemPB (s : List UInt8) (ss : List (List UInt8)) : Option (Int × Int) :=
  if (cpB (Lib.trimRightB s 42) ss).2 = 0 ∧ s.length - (Lib.trimRightB s 42).length ≤ 2 then some ((cpB (Lib.trimRightB s 42) ss).1, ((s.length - (Lib.trimRightB s 42).length : Nat) : Int)) else none
/-- How the reading of an item ends. -/
def ItemEnd (o : Option (Int × Int)) (e : Ending) : Prop := match o with
  | some x => e = .returned (.tuple #[.agg #[.int .i64 x.1, .int .i64 x.2], .nilIface])
  | none => ∃ p, e = .returned (.tuple #[.agg #[.int .i64 0, .int .i64 0], .iface 377 (.pointer (some p))])

theorem trimRightB_le (s : List UInt8) (c : UInt8) : (Lib.trimRightB s c).length ≤ s.length := by
  unfold Lib.trimRightB
  rw [List.length_reverse]
  have := (List.dropWhile_sublist (· == c) (l := s.reverse)).length_le
  simpa using this

theorem kept2 {w w1 : World} {a b : Value} {t : TypeId} (hb : Below (w.alloc (.cells #[a, b] t)).heap.size (w.alloc (.cells #[a, b] t)) w1) :
    w1.cell? ⟨w.heap.size, 0, none⟩ = some a ∧ w1.cell? ⟨w.heap.size, 1, none⟩ = some b ∧ w1.frozen? ⟨w.heap.size, 0, none⟩ = false ∧ w1.frozen? ⟨w.heap.size, 1, none⟩ = false ∧ w1.heap[w.heap.size]? = some (.cells #[a, b] t (0, 0)) ∧ Below w.heap.size w w1 := by
  have h := hb.block w.heap.size (by simp)
  have h2 : w1.heap[w.heap.size]? = some (.cells #[a, b] t (0, 0)) := h.trans (heap_new rfl)
  exact ⟨cell_blk h2 0, cell_blk h2 1, frozen_blk h2 0, frozen_blk h2 1, h2, Below.trans (by go_grown) (hb.mono (by simp))⟩

set_option maxRecDepth 100000 in
set_option maxHeartbeats 1600000 in
theorem pattern_item (s : List UInt8) (A : Option Addr) (n c : Nat) (ss : List (List UInt8)) (w : World) (hG : Globs w) (hn : n ≤ 1000000) (hz : Strs w w.heap.size A n ss) (hs : ∀ x ∈ ss, x.length ≤ 1000) (hl : s.length ≤ 1000000) :
    Calls Tryz.prog 114 #[.string ⟨s.toArray⟩, .slice A n c] w fun e w' => ItemEnd (itemPB s ss) e ∧ Below w.heap.size w w' := by
  have htl := trimRightB_le s 42
  have htr := fun W => Tryz.strings_TrimRight_one ⟨s.toArray⟩ 42 (by decide) W (by show s.toArray.size ≤ _; simp; omega)
  have hcp := fun W (hW : Below w.heap.size w W) => class_Parse (Lib.trimRightB s 42) A n c ss W (hG.below hW) hn ((hz.below hW).more hW.size) hs (by omega)
  obtain ⟨p, hgp⟩ := hG.pat
  have hgs := hG.size
  have hgl : 1 < w.heap.size := by omega
  have hip : itemPB s ss = if (cpB (Lib.trimRightB s 42) ss).2 = 0 ∧ s.length - (Lib.trimRightB s 42).length ≤ 2 then some ((cpB (Lib.trimRightB s 42) ss).1, ((s.length - (Lib.trimRightB s 42).length : Nat) : Int)) else none := rfl
  have Hip := Lib.hid hip
  have Htr := Lib.hid htr
  have Hcp := Lib.hid hcp
  have Hgp := Lib.hid hgp
  clear hip htr hcp hgp hs
  generalize Lib.trimRightB s 42 = hd at *
  generalize cpB hd ss = r at *
  obtain ⟨x, y⟩ := r
  have hno : ∀ (hbad : ¬ (y = 0 ∧ s.length - hd.length ≤ 2)) (hc1 : (y == 0) = false ∨ (y == 0) = true ∧ decide ((2 : Int) < (s.length : Int) - (hd.length : Int)) = true),
      Calls Tryz.prog 114 #[.string ⟨s.toArray⟩, .slice A n c] w fun e w' => ItemEnd (itemPB s ss) e ∧ Below w.heap.size w w' := by
    intro hbad hc1
    have hip2 := Hip.out
    rw [if_neg hbad] at hip2
    have Hip2 := Lib.hid hip2
    clear hip2 Hip hbad
    rcases hc1 with hc1 | ⟨hc1, hc2⟩
    · have hc0 : (y != 0) = true := by rw [bne, hc1]; rfl
      go_enter Tryz.func114, Tryz.ntmps114
      go_wp2_with (first
        | (go_at_call 155; refine (Htr.out _).mono ?_; rintro e w' ⟨rfl, rfl⟩)
        | (go_at_call 156; refine (Hcp.out _ (by go_grown)).mono ?_; rintro e w2 ⟨rfl, hb2⟩; obtain ⟨k0, k1, f0, f1, k2, hb3⟩ := kept2 hb2; have hgp2 := (cellOf hb3 hgl).trans Hgp.out))
      go_region
      go_wp2
      obtain ⟨r0, r1⟩ := set2_cells k2 (.int .i64 0) (.int .i64 0)
      refine bodyPost_ret (v := .tuple #[.agg #[.int .i64 0, .int .i64 0], .iface 377 (.pointer (some p))]) (by simp [results, Tryz.results114, go_sem, r0, r1]) rfl ⟨?_, ((hb3.setCell (p := ⟨w.heap.size, 0, none⟩) (Nat.le_refl _) _).setCell (p := ⟨w.heap.size, 1, none⟩) (Nat.le_refl _) _).drew⟩
      rw [Hip2.out]
      exact ⟨p, rfl⟩
    · obtain rfl : y = 0 := by simpa using hc1
      go_enter Tryz.func114, Tryz.ntmps114
      go_wp2_with (first
        | (go_at_call 155; refine (Htr.out _).mono ?_; rintro e w' ⟨rfl, rfl⟩)
        | (go_at_call 156; refine (Hcp.out _ (by go_grown)).mono ?_; rintro e w2 ⟨rfl, hb2⟩; obtain ⟨k0, k1, f0, f1, k2, hb3⟩ := kept2 hb2; have hgp2 := (cellOf hb3 hgl).trans Hgp.out))
      go_region
      go_wp2
      obtain ⟨r0, r1⟩ := set2_cells k2 (.int .i64 0) (.int .i64 0)
      refine bodyPost_ret (v := .tuple #[.agg #[.int .i64 0, .int .i64 0], .iface 377 (.pointer (some p))]) (by simp [results, Tryz.results114, go_sem, r0, r1]) rfl ⟨?_, ((hb3.setCell (p := ⟨w.heap.size, 0, none⟩) (Nat.le_refl _) _).setCell (p := ⟨w.heap.size, 1, none⟩) (Nat.le_refl _) _).drew⟩
      rw [Hip2.out]
      exact ⟨p, rfl⟩
  by_cases hy : y = 0
  · subst hy
    by_cases hh : s.length - hd.length ≤ 2
    · have hdec : decide ((2 : Int) < (s.length : Int) - (hd.length : Int)) = false := by simp; omega
      obtain ⟨q, hq⟩ : ∃ q : Nat, (s.length : Int) - (hd.length : Int) = (q : Int) := ⟨s.length - hd.length, by omega⟩
      have hq2 : s.length - hd.length = q := by omega
      have hip2 := Hip.out
      rw [if_pos ⟨rfl, hh⟩, hq2] at hip2
      have Hip2 := Lib.hid hip2
      have hq3 : q ≤ 2 := by omega
      clear hip2 Hip hq2 hh hno
      go_enter Tryz.func114, Tryz.ntmps114
      go_wp2_with (first
        | (go_at_call 155; refine (Htr.out _).mono ?_; rintro e w' ⟨rfl, rfl⟩)
        | (go_at_call 156; refine (Hcp.out _ (by go_grown)).mono ?_; rintro e w2 ⟨rfl, hb2⟩; obtain ⟨k0, k1, f0, f1, k2, hb3⟩ := kept2 hb2))
      obtain ⟨r0, r1⟩ := set2_cells k2 (.int .i64 x) (.int .i64 q)
      refine bodyPost_ret (v := .tuple #[.agg #[.int .i64 x, .int .i64 q], .nilIface]) (by simp [results, Tryz.results114, go_sem, r0, r1]) rfl ⟨?_, (hb3.setCell (p := ⟨w.heap.size, 0, none⟩) (Nat.le_refl _) _).setCell (p := ⟨w.heap.size, 1, none⟩) (Nat.le_refl _) _⟩
      rw [Hip2.out]
      rfl
    · exact hno (by omega) (.inr ⟨rfl, by simp; omega⟩)
  · exact hno (by omega) (.inl (by simpa using hy))
end Go.Vir

/- slices.ContainsFunc at bytes; pattern.Parse$1. -/
namespace Go.Vir
open Go Go.RowKit Go.Proofs Go.Shelf
attribute [local go_sem] Oper.semAt_some

/-- A slice of bytes that reads as l. -/
structure Byts (w : World) (B : Nat) (A : Option Addr) (n : Nat) (l : List UInt8) : Prop where
  len : l.length = n
  at_ : 0 < n → ∃ b o, A = some ⟨b, o, none⟩ ∧ b < B ∧ ∀ (j : Nat) (h : j < l.length), w.cell? ⟨b, o + j, none⟩ = some (.int .u8 (l[j].toNat : Int))
def encB (b : UInt8) : Value := .int .u8 (b.toNat : Int)

set_option maxHeartbeats 400000 in
theorem indexFunc_byte {g : Nat} {p : UInt8 → Bool} (A : Option Addr) (n c : Nat) (xs : List UInt8) (w : World)
    (eg : ∀ args w, (callFunc g args).run Tryz.prog w = .ok (.enter g args) w) (hx : Byts w w.heap.size A n xs) (hp : Says Tryz.prog g #[] encB p w) (hn : n ≤ 1000000) :
    Calls Tryz.prog 154 #[.slice A n c, .func (.func g) #[] #[]] w fun e w' => e = .returned (.int .i64 (firstB p xs)) ∧ Below w.heap.size w w' := by
  go_enter Tryz.func154, Tryz.ntmps154
  go_wp2
  have hlen := hx.len
  go_loopw [8] (fun i wr => ∃ k : Nat, k ≤ n ∧ i = .int .i64 k ∧ (∀ (j : Nat) (h : j < k) (h2 : j < xs.length), p xs[j] = false) ∧ Below w.heap.size w wr) (fun i _ => n - (RowKit.intOf i).toNat)
  case atStart => exact ⟨0, Nat.zero_le _, rfl, fun j h => absurd h (by omega), Below.refl _ _⟩
  case round =>
    obtain ⟨k, hk, rfl, hno, hb⟩ := hrel
    rcases Nat.lt_or_ge k n with hlt | hge
    · obtain ⟨zb, zo, rfl, hzb, hzc⟩ := hx.at_ (by omega)
      have z1 := (cellOf hb hzb).trans (hzc k (by omega))
      have hc : Calls Tryz.prog g (#[encB xs[k]] ++ #[]) wr _ := hp xs[k] wr hb
      clear hzc
      generalize hxk : xs[k] = x at *
      go_wp2
      refine hc.mono ?_
      rintro e w1 ⟨rfl, hb1⟩
      rcases hpk : p x with _ | _
      · have hno' : ∀ (j : Nat) (h : j < k + 1) (h2 : j < xs.length), p xs[j] = false := fun j h h2 => by
          rcases Nat.lt_or_ge j k with h3 | h3
          · exact hno j h3 h2
          · obtain rfl : j = k := by omega
            rw [hxk]; exact hpk
        have hb2 := hb.trans (hb1.mono hb.size)
        clear hno hb hb1 hc hpk hxk
        go_wp2
        go_roundw
        case rel => exact ⟨k + 1, by omega, by go_num, hno', hb2⟩
        case measure => simp [RowKit.intOf]; omega
      · have hf : firstB p xs = k := firstB_hit (by omega) (by rw [hxk]; exact hpk) (fun j h => hno j h (by omega))
        have Hf := Lib.hid hf
        clear hf hpk hxk
        go_wp2
        go_ret
        exact ⟨ret_int Hf.out.symm, hb.trans (hb1.mono hb.size)⟩
    · have hf : firstB p xs = -1 := firstB_none (fun j h => hno j (by omega) h)
      have Hf := Lib.hid hf
      clear hf
      go_wp2
      go_ret
      exact ⟨ret_int Hf.out.symm, hb⟩

set_option maxHeartbeats 400000 in
theorem containsFunc_byte {g : Nat} {p : UInt8 → Bool} (A : Option Addr) (n c : Nat) (xs : List UInt8) (w : World)
    (eg : ∀ args w, (callFunc g args).run Tryz.prog w = .ok (.enter g args) w) (hx : Byts w w.heap.size A n xs) (hp : Says Tryz.prog g #[] encB p w) (hn : n ≤ 1000000) :
    Calls Tryz.prog 112 #[.slice A n c, .func (.func g) #[] #[]] w fun e w' => e = .returned (.bool (xs.any p)) ∧ Below w.heap.size w w' := by
  have hc := indexFunc_byte A n c xs w eg hx hp hn
  rw [← firstB_ge p xs]
  clear eg hx hp
  go_enter Tryz.func112, Tryz.ntmps112
  go_wp2_with (go_at_call 154; refine hc.mono ?_; rintro e w1 ⟨rfl, hb1⟩)
  go_ret
  exact ⟨rfl, hb1⟩

/-- A sign that no pattern's text holds. -/
def badB (b : UInt8) : Bool := decide (b.toNat = 10) || decide (128 ≤ b.toNat)
theorem parse1 (x : UInt8) (W : World) : Calls Tryz.prog 113 #[.int .u8 (x.toNat : Int)] W fun e w' => e = .returned (.bool (badB x)) ∧ Below W.heap.size W w' := by
  have hx := x.toNat_lt
  by_cases h : x.toNat = 10
  · have e1 : badB x = true := by simp [badB, h]
    rw [e1, h]
    clear e1 h
    go_enter Tryz.func113, Tryz.ntmps113
    go_wp2
    go_ret
    exact ⟨rfl, Below.refl _ _⟩
  · have e1 : badB x = decide ((128 : Int) ≤ (x.toNat : Int)) := by
      simp [badB, h]
      omega
    have e2 : ((x.toNat : Int) == 10) = false := by rw [beq_eq_false_iff_ne]; omega
    rw [e1]
    clear e1 h
    go_enter Tryz.func113, Tryz.ntmps113
    go_wp2
    go_ret
    exact ⟨rfl, Below.refl _ _⟩
theorem says_bad (w : World) : Says Tryz.prog 113 #[] encB badB w := fun x W _ => parse1 x W

/-- The bytes of a text, in a block of their own. -/
theorem run_bytes (s : ByteArray) (w : World) : ∃ c W', (convert 9 102 (.string s)).run Tryz.prog w = .ok (.slice (some ⟨w.heap.size, 0, none⟩) s.size c) W' ∧ Byts W' W'.heap.size (some ⟨w.heap.size, 0, none⟩) s.size s.data.toList ∧ Below w.heap.size w W' := by
  have h := run_bytes_of_string (P := Tryz.prog) w 9 102 5 s Tryz.underlying9 Tryz.underlying102 Tryz.underlying5
  refine ⟨_, _, h, ⟨by simp, fun hn => ⟨w.heap.size, 0, rfl, by simp, fun j hj => ?_⟩⟩, ?_⟩
  · have hb := bytesRow_at s (grownCap w s.size 0 5) j (by simpa using hj)
    have hh := World.alloc_heap_new w.drew (.cells (bytesRow s (grownCap w s.size 0 5)) 5 ((bytesRow s (grownCap w s.size 0 5)).size, (bytesRow s (grownCap w s.size 0 5)).size + 1))
    rw [show w.drew.heap.size = w.heap.size from rfl] at hh
    rw [World.cell?]
    simp only [hh, Nat.zero_add]
    rw [hb]
    rfl
  · exact (Below.refl _ w).drew.alloc (Nat.le_refl _) _
end Go.Vir
