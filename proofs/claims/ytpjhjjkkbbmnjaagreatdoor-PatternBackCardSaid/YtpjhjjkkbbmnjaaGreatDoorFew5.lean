/- viramalaw05: Few. -/
import Derived.Test.YtpjhjjkkbbmnjaaGreatDoorWkX
import Derived.Test.YtpjhjjkkbbmnjaaGreatDoorSub
import Derived.Deep.RegionHeld3
namespace Go.Vir
open Go Go.RowKit Go.Proofs Go.Shelf
attribute [local go_sem] Oper.semAt_some

/-- The first thirty-four texts, of at most forty-two bytes. -/
def fewL (ss : List (List UInt8)) : List (List UInt8) := (ss.take 34).map fun s => s.take 42

theorem few_len (ss : List (List UInt8)) : (fewL ss).length ≤ 34 ∧ ∀ x ∈ fewL ss, x.length ≤ 42 := by
  unfold fewL
  refine ⟨by simp; omega, fun x hx => ?_⟩
  obtain ⟨y, _, rfl⟩ := List.mem_map.1 hx
  simp; omega
theorem few_succ {ss : List (List UInt8)} {k : Nat} (h : k < ss.length) (h34 : k < 34) : fewL (ss.take (k + 1)) = fewL (ss.take k) ++ [ss[k].take 42] := by
  unfold fewL
  rw [List.take_take, List.take_take, Nat.min_eq_right (by omega), Nat.min_eq_right (by omega), List.take_succ_eq_append_getElem h, List.map_append]
  rfl

theorem text_cut (s : List UInt8) (k : Nat) : (⟨s.toArray⟩ : ByteArray).extract 0 k = ⟨(s.take k).toArray⟩ := by
  apply ByteArray.ext
  simp [ByteArray.data_extract]

set_option maxRecDepth 100000 in
set_option maxHeartbeats 2000000 in
theorem law_Few5 (A : Option Addr) (n c : Nat) (ss : List (List UInt8)) (w : World) (hz : Strs w w.heap.size A n ss) (hn : n ≤ 9223372036854775807) :
    Calls Tryz.prog 16 #[.slice A n c] w fun e w' => (∃ A' n' c', e = .returned (.slice A' n' c') ∧ n' ≤ c' ∧ Strs w' w'.heap.size A' n' (fewL ss)) ∧ Below w.heap.size w w' := by
  obtain ⟨i0, hi0, hz0, hz1, hz2⟩ := info_parts str_info
  have Hlen := Lib.hid hz.len
  go_enter Tryz.func16, Tryz.ntmps16
  go_wp2
  go_loopw [3, 4] (fun v i wr => ∃ k : Nat, k ≤ n ∧ k ≤ 34 ∧ i = .int .i64 (k : Int) ∧ wr.ownsRow w.heap.size 9 1 v (fewL (ss.take k)).length (strVs (fewL (ss.take k))) ∧ Below w.heap.size w wr) (fun _ i _ => 34 - (RowKit.intOf i).toNat)
  case atStart => exact ⟨0, Nat.zero_le _, by omega, rfl, by simpa [fewL, strVs] using World.ownsRow_nil _ _ _ _, Below.refl _ _⟩
  case round =>
    obtain ⟨k, hk, hk34, rfl, hown, hb⟩ := hrel
    have hfl := (few_len (ss.take k)).1
    by_cases hlt : k < n ∧ k < 34
    · obtain ⟨h1, h2⟩ := hlt
      obtain ⟨sb, so, rfl, hsb, hsc⟩ := hz.at_ (by omega)
      have hks : k < ss.length := by rw [Hlen.out]; exact h1
      have s0 := hsc k hks
      have s1 := (cellOf hb hsb).trans s0
      have hsucc := few_succ hks h2
      have Hsucc := Lib.hid hsucc
      clear hsc hsucc
      generalize ss[k] = s at *
      go_upto_region 5 with fail
      have hb1 : Below w.heap.size w (wr.drew.alloc (.cells #[.string ⟨(s.take 42).toArray⟩] 9)) := hb.drew.alloc hb.size _
      have t1 := (cellOf hb1 hsb).trans s0
      have hcs : ∀ (j : Nat) (u : Value), [Value.string ⟨(s.take 42).toArray⟩][j]? = some u → (wr.drew.alloc (.cells #[.string ⟨(s.take 42).toArray⟩] 9)).cell? ((⟨wr.drew.heap.size, 0, none⟩ : Addr).add j) = some u := cell_one_new wr.drew _ _
      have Hcs := Lib.hid hcs
      have hown1 := hown.drew.alloc (.cells #[.string ⟨(s.take 42).toArray⟩] 9)
      have hbs := hb1.size
      have hmin : s.take (min s.length 42) = s.take 42 := by
        rcases Nat.le_total s.length 42 with h | h
        · rw [Nat.min_eq_left h, List.take_length, List.take_of_length_le h]
        · rw [Nat.min_eq_right h]
      clear hcs
      refine wp_region_noPanic ?_
      refine wp_region_held_drew (S := (fun V => V.cell? ⟨sb, so + k, none⟩ = some (.string ⟨s.toArray⟩))) (by kernel_rfl) s1 (fun hHeld => ?_)
      refine wpAnyH_take (i := 0) (v := u3) rfl (by kernel_rfl) (by kernel_rfl) (by kernel_rfl) (fun _ _ _ h => h) (.inl ⟨by rfl, fun V hV => by obtain c0 := hV; go_simp⟩) hHeld ?_
      try simp only [Act.put, List.getElem_toArray, List.getElem_cons_zero, List.setIfInBounds_toArray, List.set_cons_zero, List.set_cons_succ]
      refine wpAnyH_take (i := 1) (v := .slice (some ⟨sb, so, none⟩) n c) rfl (by kernel_rfl) (by kernel_rfl) (by kernel_rfl) (fun _ _ _ h => h) (.inl ⟨by rfl, fun V hV => by obtain c0 := hV; go_simp⟩) hHeld ?_
      try simp only [Act.put, List.getElem_toArray, List.getElem_cons_zero, List.getElem_cons_succ, List.setIfInBounds_toArray, List.set_cons_zero, List.set_cons_succ]
      refine wpAnyH_take (i := 2) (v := .int .i64 (k : Int)) rfl (by kernel_rfl) (by kernel_rfl) (by kernel_rfl) (fun _ _ _ h => h) (.inl ⟨by rfl, fun V hV => by obtain c0 := hV; go_simp⟩) hHeld ?_
      try simp only [Act.put, List.getElem_toArray, List.getElem_cons_zero, List.getElem_cons_succ, List.setIfInBounds_toArray, List.set_cons_zero, List.set_cons_succ]
      refine wpAnyH_take (i := 3) (v := .pointer (some ⟨sb, so + k, none⟩)) rfl (by kernel_rfl) (by kernel_rfl) (by kernel_rfl) (fun _ _ _ h => h) (.inl ⟨by rfl, fun V hV => by obtain c0 := hV; go_simp⟩) hHeld ?_
      try simp only [Act.put, List.getElem_toArray, List.getElem_cons_zero, List.getElem_cons_succ, List.setIfInBounds_toArray, List.set_cons_zero, List.set_cons_succ]
      refine wpAnyH_take (i := 4) (v := .string ⟨s.toArray⟩) rfl (by kernel_rfl) (by kernel_rfl) (by kernel_rfl) (fun _ _ _ h => h) (.inl ⟨by rfl, fun V hV => by obtain c0 := hV; go_simp⟩) hHeld ?_
      try simp only [Act.put, List.getElem_toArray, List.getElem_cons_zero, List.getElem_cons_succ, List.setIfInBounds_toArray, List.set_cons_zero, List.set_cons_succ]
      refine wpAnyH_take (i := 5) (v := .slice (some ⟨sb, so, none⟩) n c) rfl (by kernel_rfl) (by kernel_rfl) (by kernel_rfl) (fun _ _ _ h => h) (.inl ⟨by rfl, fun V hV => by obtain c0 := hV; go_simp⟩) hHeld ?_
      try simp only [Act.put, List.getElem_toArray, List.getElem_cons_zero, List.getElem_cons_succ, List.setIfInBounds_toArray, List.set_cons_zero, List.set_cons_succ]
      refine wpAnyH_take (i := 6) (v := .int .i64 (k : Int)) rfl (by kernel_rfl) (by kernel_rfl) (by kernel_rfl) (fun _ _ _ h => h) (.inl ⟨by rfl, fun V hV => by obtain c0 := hV; go_simp⟩) hHeld ?_
      try simp only [Act.put, List.getElem_toArray, List.getElem_cons_zero, List.getElem_cons_succ, List.setIfInBounds_toArray, List.set_cons_zero, List.set_cons_succ]
      refine wpAnyH_take (i := 7) (v := .pointer (some ⟨sb, so + k, none⟩)) rfl (by kernel_rfl) (by kernel_rfl) (by kernel_rfl) (fun _ _ _ h => h) (.inl ⟨by rfl, fun V hV => by obtain c0 := hV; go_simp⟩) hHeld ?_
      try simp only [Act.put, List.getElem_toArray, List.getElem_cons_zero, List.getElem_cons_succ, List.setIfInBounds_toArray, List.set_cons_zero, List.set_cons_succ]
      refine wpAnyH_take (i := 8) (v := .string ⟨s.toArray⟩) rfl (by kernel_rfl) (by kernel_rfl) (by kernel_rfl) (fun _ _ _ h => h) (.inl ⟨by rfl, fun V hV => by obtain c0 := hV; go_simp⟩) hHeld ?_
      try simp only [Act.put, List.getElem_toArray, List.getElem_cons_zero, List.getElem_cons_succ, List.setIfInBounds_toArray, List.set_cons_zero, List.set_cons_succ]
      refine wpAnyH_take (i := 9) (v := .int .i64 (s.length : Int)) rfl (by kernel_rfl) (by kernel_rfl) (by kernel_rfl) (fun _ _ _ h => h) (.inl ⟨by rfl, fun V hV => by obtain c0 := hV; go_simp⟩) hHeld ?_
      try simp only [Act.put, List.getElem_toArray, List.getElem_cons_zero, List.getElem_cons_succ, List.setIfInBounds_toArray, List.set_cons_zero, List.set_cons_succ]
      refine wpAnyH_take (i := 10) (v := .int .i64 (min (s.length : Int) 42)) rfl (by kernel_rfl) (by kernel_rfl) (by kernel_rfl) (fun _ _ _ h => h) (.inl ⟨by rfl, fun V hV => by obtain c0 := hV; go_simp⟩) hHeld ?_
      try simp only [Act.put, List.getElem_toArray, List.getElem_cons_zero, List.getElem_cons_succ, List.setIfInBounds_toArray, List.set_cons_zero, List.set_cons_succ]
      refine wpAnyH_take (i := 11) (v := .string ⟨(s.take 42).toArray⟩) rfl (by kernel_rfl) (by kernel_rfl) (by kernel_rfl) (fun _ _ _ h => h) (.inl ⟨by rfl, fun V hV => by obtain c0 := hV; go_simp; rw [show (min (s.length : Int) 42).toNat = min s.length 42 by omega, text_cut, hmin, if_pos ⟨by omega, by omega⟩]⟩) hHeld ?_
      try simp only [Act.put, List.getElem_toArray, List.getElem_cons_zero, List.getElem_cons_succ, List.setIfInBounds_toArray, List.set_cons_zero, List.set_cons_succ]
      refine wpAnyH_ready (rs := [12]) (by kernel_rfl) (by simp) ?_
      refine AllReadyH.cons rfl (fun K hK => ?_) AllReadyH.nil
      go_simp
      refine hK.out _ _ t1 (fun hHeld => ?_)
      clear hK K
      try simp only [Act.put, List.getElem_toArray, List.getElem_cons_zero, List.getElem_cons_succ, List.setIfInBounds_toArray, List.set_cons_zero, List.set_cons_succ]
      refine wpAnyH_ready (rs := [13]) (by kernel_rfl) (by simp) ?_
      refine AllReadyH.cons rfl (fun K hK => ?_) AllReadyH.nil
      refine step_append_mine rfl (.tmp 15) (.tmp 27) 25 rfl w.heap.size 9 i0 (.string ⟨#[]⟩) 1 16 Tryz.underlying25 hi0 hz0 hz1 hz2 rfl (by decide) u3 (fewL (ss.take k)).length (strVs (fewL (ss.take k))) (by simp [Act.eval]) hown1 ⟨wr.drew.heap.size, 0, none⟩ 1 1 [.string ⟨(s.take 42).toArray⟩] (by simp [Act.eval]) rfl Hcs.out (by simp [Value.oneCell']) (by simp only [maxLen]; omega) (by omega) hbs ?_
      intro v' w5 hown5 hgrow
      have hb5 : Below w.heap.size w w5 := hb1.grown hgrow hb1.size (fun g hg => (row_data hown1 g hg).1)
      have t5 := (cellOf hb5 hsb).trans s0
      refine hK.out _ _ t5 (fun hHeld => ?_)
      clear hK K
      try simp only [Act.put, List.getElem_toArray, List.getElem_cons_zero, List.getElem_cons_succ, List.setIfInBounds_toArray, List.set_cons_zero, List.set_cons_succ]
      refine wpAnyH_take (i := 14) (v := v') rfl (by kernel_rfl) (by kernel_rfl) (by kernel_rfl) (fun _ _ _ h => h) (.inl ⟨by rfl, fun V hV => by obtain c0 := hV; go_simp⟩) hHeld ?_
      try simp only [Act.put, List.getElem_toArray, List.getElem_cons_zero, List.getElem_cons_succ, List.setIfInBounds_toArray, List.set_cons_zero, List.set_cons_succ]
      refine wpAnyH_done (by kernel_rfl) ?_ _
      refine NoPanic.normal ?_
      have hown6 : w5.ownsRow w.heap.size 9 1 v' (fewL (ss.take (k + 1))).length (strVs (fewL (ss.take (k + 1)))) := by
        rw [Hsucc.out]
        have : strVs (fewL (ss.take k) ++ [s.take 42]) = strVs (fewL (ss.take k)) ++ [.string ⟨(s.take 42).toArray⟩] := by simp [strVs]
        rw [this, List.length_append]
        exact hown5
      clear hHeld hown5 hown1 hown hgrow t1 t5 hbs
      go_wp2_with fail
      go_roundw
      case rel => exact ⟨k + 1, by omega, by omega, by go_num, hown6, hb5⟩
      case measure => simp [RowKit.intOf]; omega
    · have hall : fewL (ss.take k) = fewL ss := by
        unfold fewL
        rw [List.take_take]
        rcases Nat.lt_or_ge k 34 with h | h
        · have : k = n := by omega
          rw [Nat.min_eq_right (by omega), List.take_of_length_le (by rw [Hlen.out]; omega), List.take_of_length_le (by rw [Hlen.out]; omega)]
        · rw [Nat.min_eq_left (by omega)]
      rw [hall] at hown
      obtain ⟨A', n', c', rfl, hn', hc', hS⟩ := slice_own hown
      subst hn'
      have hcase : n ≤ k ∨ (k < n ∧ 34 ≤ k) := by omega
      clear hlt hall hown
      rcases hcase with h | ⟨h, h'⟩
      · go_wp2_with fail
        go_ret
        exact ⟨⟨A', _, c', rfl, hc', hS⟩, hb⟩
      · go_wp2_with fail
        go_ret
        exact ⟨⟨A', _, c', rfl, hc', hS⟩, hb⟩
end Go.Vir
