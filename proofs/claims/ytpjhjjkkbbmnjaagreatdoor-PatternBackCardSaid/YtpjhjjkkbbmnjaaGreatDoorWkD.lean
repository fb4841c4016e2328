/- The walks of places and ends. -/
import Derived.Test.YtpjhjjkkbbmnjaaGreatDoorWkC
import Derived.Test.YtpjhjjkkbbmnjaaGreatDoorListA
import Derived.Test.YtpjhjjkkbbmnjaaGreatDoorShelf
namespace Go.Vir
open Go Go.RowKit Go.Proofs Go.Shelf Go.Sort Go.Lib

theorem heap_putRow {α : Type} [Inhabited α] (enc : α → Value) (w : World) (blk off : Nat) (d : Array α) (k : Nat) (h : k ≠ blk) : (putRow enc w blk off d).heap[k]? = w.heap[k]? := by
  simp only [putRow, mapBlock, Array.getElem?_modify]
  rw [if_neg (by omega)]
theorem below_putRow {α : Type} [Inhabited α] (enc : α → Value) (w : World) (blk off B : Nat) (d : Array α) (h : B ≤ blk) : Below B w (putRow enc w blk off d) :=
  ⟨rfl, rfl, rfl, by simp, fun k hk => heap_putRow enc w blk off d k (by omega)⟩
theorem below_ahead (B : Nat) (w : World) (n : Nat) : Below B w (Sort.ahead w n) := ⟨rfl, rfl, rfl, Nat.le_refl _, fun _ _ => rfl⟩
theorem below_grow (B : Nat) (w : World) (os : Array Obj) (hB : B ≤ w.heap.size) : Below B w (grow w os) :=
  ⟨rfl, rfl, rfl, by simp, fun k hk => heap_grow_old w os (by omega)⟩

set_option maxHeartbeats 400000 in
theorem places_any {base n : Nat} {v : Value} {zs : List Int} (w : World) (hown : w.ownsRow base 3 1 v n (zs.map (Value.int .i64))) (hb : base ≤ w.heap.size) (hn : n ≤ 10000000) :
    Calls Tryz.prog 112 #[v] w fun e w' => ∃ A' n' c', e = .returned (.slice A' n' c') ∧ Ints w' w'.heap.size A' n' (uniq zs) ∧ Below base w w' := by
  have hl : zs.length = n := by simpa using hown.1
  rcases Nat.eq_zero_or_pos n with h0 | h0
  · subst h0
    obtain rfl : zs = [] := List.eq_nil_of_length_eq_zero hl
    obtain ⟨a, c, rfl⟩ : ∃ a c, v = .slice a 0 c := by
      rcases hown.2 with ⟨rfl, _⟩ | ⟨g, cap, cur, rfl, _⟩
      · exact ⟨_, _, rfl⟩
      · exact ⟨_, _, rfl⟩
    clear hown
    go_enter Tryz.func112, Tryz.ntmps112
    go_wp2_with (first
      | (go_at_call 147; refine (Tryz.slices_Sort_int_none _ _ _).mono ?_; rintro e w' ⟨rfl, rfl⟩)
      | (go_at_call 148; refine (Tryz.slices_Compact_int_empty _ _ _).mono ?_; rintro e w' ⟨rfl, rfl⟩))
    go_ret
    exact ⟨_, _, _, rfl, by rw [show uniq [] = [] from by simp [uniq, Lib.compact, compactUpTo]]; exact Ints.nil _ _ _, Below.refl _ _⟩
  · obtain ⟨g, cap, rfl, hbg, hc⟩ : ∃ g cap, v = .slice (some ⟨g, 0, none⟩) n cap ∧ base ≤ g ∧ n ≤ cap ∧ g < w.heap.size ∧ Holds (Value.int .i64) w g 0 zs.toArray := by
      rcases hown.2 with ⟨rfl, h⟩ | ⟨g, cap, cur, rfl, hbg, hgb, hcap, _, hcs, ht⟩
      · omega
      · refine ⟨g, cap, rfl, hbg, hcap, (Array.getElem?_eq_some_iff.1 hgb).1, fun j hj => ⟨?_, frozen_blk hgb _⟩⟩
        have hj' : j < zs.length := by simpa using hj
        simp only [World.cell?, hgb, Nat.zero_add]
        have h1 : (cur.toList.take (n * 1))[j]? = some (.int .i64 zs[j]) := by rw [ht]; simp [hj']
        rw [List.getElem?_take] at h1
        split at h1
        · rw [getElem!_pos _ j hj]; simpa using h1
        · cases h1
    obtain ⟨hcap, hgl, hH⟩ := hc
    have Hown := Lib.hid hown
    clear hown
    have hsort := Tryz.slices_Sort_int g 0 cap zs w hH hgl (by omega)
    generalize hso : (zs.mergeSort fun x y => decide (x ≤ y)) = so at hsort
    have hsl : so.length = n := by rw [← hso]; simp [hl]
    have hu : uniq zs = Lib.compact so := by unfold uniq; rw [hso]
    rw [hu, ← hl]
    have Hl := Lib.hid hl; have Hsl := Lib.hid hsl; have Hso := Lib.hid hso; have Hu := Lib.hid hu
    clear hl hsl hso hu
    go_enter Tryz.func112, Tryz.ntmps112
    go_wp2_with fail
    refine hsort.mono ?_
    rintro e w1 ⟨rfl, k, os, rfl⟩
    have hH1 : Holds (Value.int .i64) (grow (putRow (Value.int .i64) (Sort.ahead w k) g 0 so.toArray) os) g 0 so.toArray :=
      holds_grow _ _ _ _ _ _ (by simpa using hgl) (holds_putRow _ _ _ _ zs.toArray _ hH (by simp [Hl.out, Hsl.out]))
    have hb1 : Below base w (grow (putRow (Value.int .i64) (Sort.ahead w k) g 0 so.toArray) os) :=
      ((below_ahead _ _ _).trans (below_putRow _ _ _ _ _ _ hbg)).trans (below_grow _ _ _ (by simpa using hb))
    have hg1 : g < (grow (putRow (Value.int .i64) (Sort.ahead w k) g 0 so.toArray) os).heap.size := by simp [Sort.ahead]; omega
    generalize grow (putRow (Value.int .i64) (Sort.ahead w k) g 0 so.toArray) os = W1 at *
    have hcomp := Tryz.slices_Compact_int g 0 cap so W1 hH1 (by have := Hsl.out; omega) (by have := Hsl.out; omega)
    rw [show so.length = zs.length by rw [Hsl.out, Hl.out]] at hcomp
    have hule : (Lib.compact so).length ≤ zs.length := by
      have h1 : (Lib.compact so).length ≤ so.length := by
        unfold Lib.compact compactUpTo
        rw [List.length_map]
        exact Nat.le_trans (List.length_filter_le _ _) (by simp)
      have := Hsl.out; have := Hl.out; omega
    go_wp2_with fail
    refine hcomp.mono ?_
    rintro e w2 ⟨rfl, q, rfl⟩
    go_wp2
    go_ret
    refine ⟨_, _, _, rfl, ⟨rfl, fun _ => ⟨g, 0, rfl, by simp [Sort.ahead]; omega, fun j hj => ?_⟩⟩, hb1.trans ((below_ahead _ _ q).trans (below_putRow _ _ _ _ _ _ hbg))⟩
    have hH2 : Holds (Value.int .i64) (Sort.ahead W1 q) g 0 so.toArray := hH1
    have hsz : (Lib.compact so ++ List.replicate (zs.length - (Lib.compact so).length) 0).toArray.size = so.toArray.size := by
      have := Hsl.out; have := Hl.out
      simp; omega
    have h3 := cell?_putRow (Value.int .i64) (Sort.ahead W1 q) g 0 so.toArray _ hH2 hsz j (by rw [hsz]; have := Hsl.out; have := Hl.out; simp; omega)
    rw [getElem!_pos _ j (by rw [hsz]; have := Hsl.out; have := Hl.out; simp; omega)] at h3
    rw [h3]
    simp [List.getElem_append_left hj]
end Go.Vir
