/- pattern: an item of a part. -/
import Derived.Test.YtpjhjjkkbbmnjaaGreatDoorWkS
namespace Go.Vir
open Go Go.RowKit Go.Proofs Go.Shelf
attribute [local go_sem] Oper.semAt_some

/-- A part's item. -/
def itemPB (s : List UInt8) (ss : List (List UInt8)) : Option (Int × Int) :=
  if (cpB (Lib.trimRightB s 42) ss).2 = 0 ∧ s.length - (Lib.trimRightB s 42).length ≤ 2 then some ((cpB (Lib.trimRightB s 42) ss).1, ((s.length - (Lib.trimRightB s 42).length : Nat) : Int)) else none
/-- How the reading of an item ends. -/
def ItemEnd (o : Option (Int × Int)) (e : Ending) : Prop := match o with
  | some x => e = .returned (.tuple #[.agg #[.int .i64 x.1, .int .i64 x.2], .nilIface])
  | none => ∃ p, e = .returned (.tuple #[.agg #[.int .i64 0, .int .i64 0], .iface 286 (.pointer (some p))])

theorem trimRightB_le (s : List UInt8) (c : UInt8) : (Lib.trimRightB s c).length ≤ s.length := by
  unfold Lib.trimRightB
  rw [List.length_reverse]
  have := (List.dropWhile_sublist (· == c) (l := s.reverse)).length_le
  simpa using this

theorem kept2 {w w1 : World} {a b : Value} {t : TypeId} (hb : Below (w.alloc (.cells #[a, b] t)).heap.size (w.alloc (.cells #[a, b] t)) w1) :
    w1.cell? ⟨w.heap.size, 0, none⟩ = some a ∧ w1.cell? ⟨w.heap.size, 1, none⟩ = some b ∧ w1.frozen? ⟨w.heap.size, 0, none⟩ = false ∧ w1.frozen? ⟨w.heap.size, 1, none⟩ = false ∧ w1.heap[w.heap.size]? = some (.cells #[a, b] t (0, 0)) ∧ Below w.heap.size w w1 := by
  have h := hb.block w.heap.size (by simp)
  have h2 : w1.heap[w.heap.size]? = some (.cells #[a, b] t (0, 0)) := h.trans (heap_new rfl)
  exact ⟨cell_blk h2 0, cell_blk h2 1, frozen_blk h2 0, frozen_blk h2 1, h2, Below.trans (by go_grown) (hb.mono (by simp))⟩

set_option maxRecDepth 100000 in
set_option maxHeartbeats 1600000 in
theorem pattern_item (s : List UInt8) (A : Option Addr) (n c : Nat) (ss : List (List UInt8)) (w : World) (hG : Globs w) (hn : n ≤ 1000000) (hz : Strs w w.heap.size A n ss) (hs : ∀ x ∈ ss, x.length ≤ 1000) (hl : s.length ≤ 1000000) :
    Calls Tryz.prog 61 #[.string ⟨s.toArray⟩, .slice A n c] w fun e w' => ItemEnd (itemPB s ss) e ∧ Below w.heap.size w w' := by
  have htl := trimRightB_le s 42
  have htr := fun W => Tryz.strings_TrimRight_one ⟨s.toArray⟩ 42 (by decide) W (by show s.toArray.size ≤ _; simp; omega)
  have hcp := fun W (hW : Below w.heap.size w W) => class_Parse (Lib.trimRightB s 42) A n c ss W (hG.below hW) hn ((hz.below hW).more hW.size) hs (by omega)
  obtain ⟨p, hgp⟩ := hG.pat
  have hgs := hG.size
  have hgl : 0 < w.heap.size := by omega
  have hip : itemPB s ss = if (cpB (Lib.trimRightB s 42) ss).2 = 0 ∧ s.length - (Lib.trimRightB s 42).length ≤ 2 then some ((cpB (Lib.trimRightB s 42) ss).1, ((s.length - (Lib.trimRightB s 42).length : Nat) : Int)) else none := rfl
  have Hip := Lib.hid hip
  have Htr := Lib.hid htr
  have Hcp := Lib.hid hcp
  have Hgp := Lib.hid hgp
  clear hip htr hcp hgp hs
  generalize Lib.trimRightB s 42 = hd at *
  generalize cpB hd ss = r at *
  obtain ⟨x, y⟩ := r
  have hno : ∀ (hbad : ¬ (y = 0 ∧ s.length - hd.length ≤ 2)) (hc1 : (y == 0) = false ∨ (y == 0) = true ∧ decide ((2 : Int) < (s.length : Int) - (hd.length : Int)) = true),
      Calls Tryz.prog 61 #[.string ⟨s.toArray⟩, .slice A n c] w fun e w' => ItemEnd (itemPB s ss) e ∧ Below w.heap.size w w' := by
    intro hbad hc1
    have hip2 := Hip.out
    rw [if_neg hbad] at hip2
    have Hip2 := Lib.hid hip2
    clear hip2 Hip hbad
    rcases hc1 with hc1 | ⟨hc1, hc2⟩
    · have hc0 : (y != 0) = true := by rw [bne, hc1]; rfl
      go_enter Tryz.func61, Tryz.ntmps61
      go_wp2_with (first
        | (go_at_call 103; refine (Htr.out _).mono ?_; rintro e w' ⟨rfl, rfl⟩)
        | (go_at_call 104; refine (Hcp.out _ (by go_grown)).mono ?_; rintro e w2 ⟨rfl, hb2⟩; obtain ⟨k0, k1, f0, f1, k2, hb3⟩ := kept2 hb2; have hgp2 := (cellOf hb3 hgl).trans Hgp.out))
      go_region
      go_wp2
      obtain ⟨r0, r1⟩ := set2_cells k2 (.int .i64 0) (.int .i64 0)
      refine bodyPost_ret (v := .tuple #[.agg #[.int .i64 0, .int .i64 0], .iface 286 (.pointer (some p))]) (by simp [results, Tryz.results61, go_sem, r0, r1]) rfl ⟨?_, ((hb3.setCell (p := ⟨w.heap.size, 0, none⟩) (Nat.le_refl _) _).setCell (p := ⟨w.heap.size, 1, none⟩) (Nat.le_refl _) _).drew⟩
      rw [Hip2.out]
      exact ⟨p, rfl⟩
    · obtain rfl : y = 0 := by simpa using hc1
      go_enter Tryz.func61, Tryz.ntmps61
      go_wp2_with (first
        | (go_at_call 103; refine (Htr.out _).mono ?_; rintro e w' ⟨rfl, rfl⟩)
        | (go_at_call 104; refine (Hcp.out _ (by go_grown)).mono ?_; rintro e w2 ⟨rfl, hb2⟩; obtain ⟨k0, k1, f0, f1, k2, hb3⟩ := kept2 hb2; have hgp2 := (cellOf hb3 hgl).trans Hgp.out))
      go_region
      go_wp2
      obtain ⟨r0, r1⟩ := set2_cells k2 (.int .i64 0) (.int .i64 0)
      refine bodyPost_ret (v := .tuple #[.agg #[.int .i64 0, .int .i64 0], .iface 286 (.pointer (some p))]) (by simp [results, Tryz.results61, go_sem, r0, r1]) rfl ⟨?_, ((hb3.setCell (p := ⟨w.heap.size, 0, none⟩) (Nat.le_refl _) _).setCell (p := ⟨w.heap.size, 1, none⟩) (Nat.le_refl _) _).drew⟩
      rw [Hip2.out]
      exact ⟨p, rfl⟩
  by_cases hy : y = 0
  · subst hy
    by_cases hh : s.length - hd.length ≤ 2
    · have hdec : decide ((2 : Int) < (s.length : Int) - (hd.length : Int)) = false := by simp; omega
      obtain ⟨q, hq⟩ : ∃ q : Nat, (s.length : Int) - (hd.length : Int) = (q : Int) := ⟨s.length - hd.length, by omega⟩
      have hq2 : s.length - hd.length = q := by omega
      have hip2 := Hip.out
      rw [if_pos ⟨rfl, hh⟩, hq2] at hip2
      have Hip2 := Lib.hid hip2
      have hq3 : q ≤ 2 := by omega
      clear hip2 Hip hq2 hh hno
      go_enter Tryz.func61, Tryz.ntmps61
      go_wp2_with (first
        | (go_at_call 103; refine (Htr.out _).mono ?_; rintro e w' ⟨rfl, rfl⟩)
        | (go_at_call 104; refine (Hcp.out _ (by go_grown)).mono ?_; rintro e w2 ⟨rfl, hb2⟩; obtain ⟨k0, k1, f0, f1, k2, hb3⟩ := kept2 hb2))
      obtain ⟨r0, r1⟩ := set2_cells k2 (.int .i64 x) (.int .i64 q)
      refine bodyPost_ret (v := .tuple #[.agg #[.int .i64 x, .int .i64 q], .nilIface]) (by simp [results, Tryz.results61, go_sem, r0, r1]) rfl ⟨?_, (hb3.setCell (p := ⟨w.heap.size, 0, none⟩) (Nat.le_refl _) _).setCell (p := ⟨w.heap.size, 1, none⟩) (Nat.le_refl _) _⟩
      rw [Hip2.out]
      rfl
    · exact hno (by omega) (.inr ⟨rfl, by simp; omega⟩)
  · exact hno (by omega) (.inl (by simpa using hy))
end Go.Vir
