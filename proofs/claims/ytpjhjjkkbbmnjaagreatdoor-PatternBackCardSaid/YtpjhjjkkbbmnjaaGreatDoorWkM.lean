/- class: a set's text. -/
import Derived.Test.YtpjhjjkkbbmnjaaGreatDoorWkL
import Derived.Deep.RegionHeld3
import Derived.Deep.DeepCutAuto
namespace Go.Vir
open Go Go.RowKit Go.Proofs Go.Shelf
attribute [local go_sem] Oper.semAt_some

/-- A set's text. -/
def printB (s : Int) (ss : List (List UInt8)) : List UInt8 :=
  if (bitsL s 32).length = ss.length then [46]
  else if (bitsL s 32).length = 1 then listB s ss
  else if ss.length < 2 * (bitsL s 32).length then [91, 94] ++ (listB (notB s ss.length) ss ++ [93])
  else [91] ++ (listB s ss ++ [93])

theorem class_Classes_keep (s : Int) (p : Addr) (x : Value) (w : World) (hp : p.block < w.heap.size) (hc : w.cell? p = some x) :
    Calls Tryz.prog 132 #[.int .i64 s] w fun e w' => ∃ A' c', e = .returned (.slice A' (bitsL s 32).length c') ∧ w'.cell? p = some x ∧ Below w.heap.size w w' := by
  refine (class_Classes s w).mono ?_
  rintro e w' ⟨A', n', c', rfl, hI, hb⟩
  exact ⟨A', c', by rw [hI.len], (hb.cell hp).trans hc, hb⟩

theorem rightB_not {s : Int} {n : Nat} (h : rightB s n = true) : rightB (notB s n) n = true := by
  unfold notB
  rw [h, if_pos rfl]
  simp only [rightB, Bool.and_eq_true, decide_eq_true_eq] at h ⊢
  refine ⟨h.1, h.2.1, by omega, by omega⟩

theorem listB_len {s : Int} {ss : List (List UInt8)} {n : Nat} (hr : rightB s n = true) (hn : ss.length = n) (hs : ∀ x ∈ ss, x.length ≤ 1000) : (listB s ss).length ≤ 40000 := by
  have h := join_length [32] 1000 (namesL s ss) (fun x hx => hs x (namesL_mem hr hn hx))
  have h2 := bitsL_len s 32
  have h3 : (namesL s ss).length ≤ 32 := by simpa [namesL] using h2
  have h4 := Nat.mul_le_mul h3 (Nat.le_refl (1000 + [(32 : UInt8)].length))
  unfold listB
  simp only [List.length_cons, List.length_nil] at h h4
  omega

theorem bytes_app (a b : Array UInt8) : (⟨a⟩ : ByteArray) ++ ⟨b⟩ = ⟨a ++ b⟩ := by
  apply ByteArray.ext
  simp
theorem ret_bytes3 (a b c : List UInt8) : Ending.returned (.string (((⟨a.toArray⟩ : ByteArray) ++ ⟨b.toArray⟩) ++ ⟨c.toArray⟩)) = .returned (.string ⟨(a ++ (b ++ c)).toArray⟩) := by
  rw [bytes_app, bytes_app]
  simp

theorem fresh2_blk {w w1 : World} {a b : Value} {t : TypeId} (hb : Below (w.alloc (.cells #[a, b] t)).drew.heap.size (w.alloc (.cells #[a, b] t)).drew w1) : w1.heap[w.heap.size]? = some (.cells #[a, b] t (0, 0)) :=
  (hb.block w.heap.size (by show _ < (w.alloc _).heap.size; simp)).trans (heap_new rfl)
theorem set2_cells {w : World} {g : Nat} {a b : Value} {t : TypeId} (h : w.heap[g]? = some (.cells #[a, b] t (0, 0))) (x y : Value) :
    ((w.setCell ⟨g, 0, none⟩ x).setCell ⟨g, 1, none⟩ y).cell? ⟨g, 0, none⟩ = some x ∧ ((w.setCell ⟨g, 0, none⟩ x).setCell ⟨g, 1, none⟩ y).cell? ⟨g, 1, none⟩ = some y := by
  constructor <;> simp [World.setCell, World.cell?, Array.getElem?_modify, h]

set_option maxRecDepth 100000 in
set_option maxHeartbeats 1600000 in
theorem reader_print (r : Nat) (A : Option Addr) (n c : Nat) (ss : List (List UInt8)) (s : Int) (w : World) (hR : Reader w r A n c ss) (hr : rightB s n = true) (hs : ∀ x ∈ ss, x.length ≤ 1000) :
    Calls Tryz.prog 91 #[.pointer (some ⟨r, 0, none⟩), .int .i64 s] w fun e w' => e = .returned (.string ⟨(printB s ss).toArray⟩) ∧ Below w.heap.size w w' := by
  have hN := bitsL_len s 32
  have hrl := hR.lt
  have hr1 : w.cell? ⟨r, 0, none⟩ = some (.slice A n c) := by
    obtain ⟨mb, es, ck, h1, _, _⟩ := hR.at_
    simp [World.cell?, h1]
  have hk := class_Classes_keep s
  have hl := fun (s' : Int) (hs' : rightB s' n = true) W (hW : Below w.heap.size w W) => reader_list r A n c ss s' W (hR.below hW) hs' hs
  have hpr : printB s ss = if (bitsL s 32).length = n then [46] else if (bitsL s 32).length = 1 then listB s ss else if n < 2 * (bitsL s 32).length then [91, 94] ++ (listB (notB s n) ss ++ [93]) else [91] ++ (listB s ss ++ [93]) := by
    rw [printB, hR.strs.len]
  generalize (bitsL s 32).length = k at hN hk hpr
  have hne : ¬ r = w.heap.size := by omega
  have hne2 : ¬ w.heap.size = r := by omega
  go_enter Tryz.func91, Tryz.ntmps91
  go_upto_region 1 with fail
  go_cut [5] (fun s5 wx => ∃ g : Nat, s5 = .pointer (some ⟨g, 0, none⟩) ∧ wx.cell? ⟨g, 0, none⟩ = some (.int .i64 k) ∧ wx.cell? ⟨g, 1, none⟩ = some (.int .i64 n) ∧ wx.cell? ⟨r, 0, none⟩ = some (.slice A n c) ∧ w.heap.size ≤ g ∧ g < wx.heap.size ∧ Below w.heap.size w wx)
  case first =>
    go_region_held3 (fun W => W.cell? ⟨r, 0, none⟩ = some (.slice A n c) ∧ r < W.heap.size) (first | exact ⟨by assumption, by assumption⟩ | exact ⟨(World.cell?_alloc_lt _ _ _ (by assumption)).trans (by assumption), by simp; omega⟩ | go_keep)
      (first | (go_at_call 132; refine (hk ⟨r, 0, none⟩ (.slice A n c) _ ?_ ?_).mono ?_; (show r < _); (first | assumption | (simp; omega)); (first | assumption | exact (World.cell?_alloc_lt _ _ _ (by assumption)).trans (by assumption)); rintro e w1 ⟨A', c', rfl, hc1, hb1⟩; (have hl1 : r < w1.heap.size := by (have := hb1.size; simp at this; omega)); (have hne3 : ¬ r = w1.heap.size := by omega); (have hne4 : ¬ w1.heap.size = r := by omega); obtain ⟨hcc, hff⟩ := bcell hb1))
    · go_wp2_with fail
      go_meet
      exact ⟨w1.heap.size, rfl, by simp, by simp, (World.cell?_alloc_lt _ _ _ hl1).trans hc1, hb1.size, by simp, (Below.trans (by go_grown) hb1).alloc hb1.size _⟩
    · go_wp2_with fail
      go_meet
      have hbk := fresh2_blk hb1
      have hgl := (Array.getElem?_eq_some_iff.1 hbk).1
      obtain ⟨k0, k1⟩ := set2_cells hbk (.int .i64 k) (.int .i64 n)
      refine ⟨w.heap.size, rfl, k0, k1, ?_, Nat.le_refl _, by simpa using hgl, ?_⟩
      · rw [World.cell?_setCell_other _ _ _ _ (by simp), World.cell?_setCell_other _ _ _ _ (by simp)]; exact hc1
      · exact ((Below.trans (b := (w.alloc (.cells #[.int .i64 0, .int .i64 0] 191)).drew) (by go_grown) (hb1.mono (by show _ ≤ (w.alloc _).heap.size; rw [World.size_alloc]; exact Nat.le_succ _))).setCell (p := ⟨w.heap.size, 0, none⟩) (Nat.le_refl _) _).setCell (p := ⟨w.heap.size, 1, none⟩) (Nat.le_refl _) _
  case rest =>
    obtain ⟨g, rfl, h0, h1, hc, hg0, hg1, hb⟩ := hcut
    generalize wc = w2 at *
    have hg2 : g < w2.heap.size + 1 := by omega
    have hgn0 : ¬ g = w2.heap.size := by omega
    have hgn1 : ¬ g = w2.heap.size + 1 := by omega
    have hgn2 : ¬ w2.heap.size = g := by omega
    have hgn3 : ¬ w2.heap.size + 1 = g := by omega
    go_upto_region 2 with fail
    go_cut [6, 7] (fun s6 s7 wx => ∃ g6 g7 : Nat, s6 = .pointer (some ⟨g6, 0, none⟩) ∧ s7 = .pointer (some ⟨g7, 0, none⟩) ∧ wx.cell? ⟨g6, 0, none⟩ = some (.int .i64 n) ∧ wx.cell? ⟨g6, 1, none⟩ = some (.int .i64 n) ∧
        wx.cell? ⟨g7, 0, none⟩ = some (.int .i64 1) ∧ wx.cell? ⟨g7, 1, none⟩ = some (.int .i64 n) ∧ Below w2.heap.size w2 wx)
    case first =>
      go_region_held3 (fun W => W.cell? ⟨g, 1, none⟩ = some (.int .i64 n)) (go_keep) (fail)
      all_goals go_wp2_with fail
      all_goals go_meet
      all_goals exact ⟨_, _, rfl, rfl, by simp, by simp, by simp, by simp, by go_grown⟩
    case rest =>
      obtain ⟨g6, g7, rfl, rfl, e60, e61, e70, e71, hb2⟩ := hcut
      have f0 := (cellOf hb2 hg1).trans h0
      have f1 := (cellOf hb2 hg1).trans h1
      have hbx : Below w.heap.size w wc := hb.trans (hb2.mono hb.size)
      have hl1 := hl s hr wc hbx
      have hl2 := hl (notB s n) (rightB_not hr) wc hbx
      have Hb := Lib.hid hbx
      have Hp := Lib.hid hpr
      have hle1 := listB_len hr hR.strs.len hs
      have hle2 := listB_len (rightB_not hr) hR.strs.len hs
      clear hpr hl hk hr1 hR hbx hb hb2 h0 h1 hc
      go_wp2_with (first
        | (go_at_call 134; refine (class_Not _ _ _).mono ?_; rintro e w' ⟨rfl, rfl⟩)
        | (go_at_call_of 133 (Value.int IntKind.i64 s); refine hl1.mono ?_; rintro e w' ⟨rfl, hb9⟩)
        | (go_at_call_of 133 (Value.int IntKind.i64 (notB s n)); refine hl2.mono ?_; rintro e w' ⟨rfl, hb9⟩))
      all_goals go_ret
      · exact ⟨by rw [Hp.out, if_pos (by omega)]; rfl, Hb.out⟩
      · exact ⟨by rw [Hp.out, if_neg (by omega), if_pos (by omega)]; rfl, Hb.out.trans (hb9.mono Hb.out.size)⟩
      · refine ⟨?_, Hb.out.trans (hb9.mono Hb.out.size)⟩
        rw [Hp.out, if_neg (by omega), if_neg (by omega), if_pos (by omega)]
        exact ret_bytes3 _ _ _
      · refine ⟨?_, Hb.out.trans (hb9.mono Hb.out.size)⟩
        rw [Hp.out, if_neg (by omega), if_neg (by omega), if_neg (by omega)]
        exact ret_bytes3 _ _ _
end Go.Vir
