/- class: Print; what the package-level variables hold. -/
import Derived.Test.YtpjhjjkkbbmnjaaGreatDoorWkM
import Derived.Test.YtpjhjjkkbbmnjaaGreatDoorTold
namespace Go.Vir
open Go Go.RowKit Go.Proofs Go.Shelf
attribute [local go_sem] Oper.semAt_some

/-- What the package-level variables hold. -/
structure Globs (w : World) : Prop where
  cls : ∃ te ve, w.cell? ⟨1, 0, none⟩ = some (.iface te ve)
  pat : ∃ p, w.cell? ⟨0, 0, none⟩ = some (.iface 286 (.pointer (some p)))
  typ : w.cell? ⟨2, 0, none⟩ = some (.iface 230 (.agg #[.pointer (some ⟨6, 68, none⟩)]))
  mlen : ∃ m, w.cell? ⟨3, 0, none⟩ = some (.int .i64 m)
  size : 6 ≤ w.heap.size
theorem Globs.below {w w' : World} (h : Globs w) (hb : Below w.heap.size w w') : Globs w' := by
  have hs := h.size
  obtain ⟨te, ve, h1⟩ := h.cls
  obtain ⟨p, h2⟩ := h.pat
  obtain ⟨m, h3⟩ := h.mlen
  exact ⟨⟨te, ve, (cellOf hb (by omega)).trans h1⟩, ⟨p, (cellOf hb (by omega)).trans h2⟩, (cellOf hb (by omega)).trans h.typ, ⟨m, (cellOf hb (by omega)).trans h3⟩, Nat.le_trans hs hb.size⟩

/-- A set's text, and why there is none. -/
def pcB (s : Int) (ss : List (List UInt8)) : List UInt8 × Int :=
  if namesB ss then (if rightB s ss.length then (printB s ss, 0) else ([], 70)) else ([], 2)

set_option maxRecDepth 100000 in
set_option maxHeartbeats 1600000 in
theorem class_Print (s : Int) (A : Option Addr) (n c : Nat) (ss : List (List UInt8)) (w : World) (hG : Globs w) (hn : n ≤ 1000000) (hz : Strs w w.heap.size A n ss) (hs : ∀ x ∈ ss, x.length ≤ 1000) :
    Calls Tryz.prog 53 #[.int .i64 s, .slice A n c] w fun e w' => e = .returned (.tuple #[.string ⟨(pcB s ss).1.toArray⟩, .int .i64 (pcB s ss).2]) ∧ Below w.heap.size w w' := by
  have hs' : ∀ x ∈ ss, x.length ≤ 1000000 := fun x hx => by have := hs x hx; omega
  obtain ⟨te, ve, hg⟩ := hG.cls
  have hgs := hG.size
  have hgl : 1 < w.heap.size := by omega
  rcases hN : namesB ss with _ | _
  · have ho := class_open_no A n c ss te ve w hn hz hs' hg hgl hN
    have hp : pcB s ss = ([], 2) := by simp [pcB, hN]
    rw [hp]
    have ht := fun W (hW : Below w.heap.size w W) => class_told 2 (.iface te ve) W rfl rfl (hG.below hW).typ (by have := (hG.below hW).size; omega)
    have Ht := Lib.hid ht
    clear ht hp hN hs hs'
    go_enter Tryz.func53, Tryz.ntmps53
    go_wp2_with (first
      | (go_at_call 89; refine ho.mono ?_; rintro e w1 ⟨rfl, hb1⟩; have ht1 := Ht.out w1 hb1)
      | (go_at_call 90; refine ht1.mono ?_; rintro e w2 ⟨rfl, hb2⟩))
    go_ret2
    exact ⟨rfl, hb1.trans (hb2.mono hb1.size)⟩
  · have ho := class_open_yes A n c ss w hn hz hs' hN
    have hlen := hz.len
    rcases hR : rightB s n with _ | _
    · have hp : pcB s ss = ([], 70) := by simp [pcB, hN, hlen, hR]
      rw [hp]
      have ht := fun W (hW : Below w.heap.size w W) => class_told 70 (.iface te ve) W rfl rfl (hG.below hW).typ (by have := (hG.below hW).size; omega)
      have Ht := Lib.hid ht
      have Hg := Lib.hid hg
      clear ht hp hN hs hs' hlen hg
      go_enter Tryz.func53, Tryz.ntmps53
      go_wp2_with (first
        | (go_at_call 89; refine ho.mono ?_; rintro e w1 ⟨r, rfl, hRd, hb1⟩; have ht1 := Ht.out w1 hb1; have hg1 := (cellOf hb1 hgl).trans Hg.out)
        | (go_at_call 65; refine (class_Right _ _ _).mono ?_; rintro e w' ⟨rfl, rfl⟩)
        | (go_at_call 90; refine ht1.mono ?_; rintro e w2 ⟨rfl, hb2⟩))
      go_ret2
      exact ⟨rfl, hb1.trans (hb2.mono hb1.size)⟩
    · have hp : pcB s ss = (printB s ss, 0) := by simp [pcB, hN, hlen, hR]
      rw [hp]
      have ht := fun r W (hRd : Reader W r A n c ss) => reader_print r A n c ss s W hRd hR hs
      have Ht := Lib.hid ht
      clear ht hp hN hs hs' hlen hg
      go_enter Tryz.func53, Tryz.ntmps53
      go_wp2_with (first
        | (go_at_call 89; refine ho.mono ?_; rintro e w1 ⟨r, rfl, hRd, hb1⟩; have ht1 := Ht.out r w1 hRd)
        | (go_at_call 65; refine (class_Right _ _ _).mono ?_; rintro e w' ⟨rfl, rfl⟩)
        | (go_at_call 91; refine ht1.mono ?_; rintro e w2 ⟨rfl, hb2⟩))
      go_ret2
      exact ⟨rfl, hb1.trans (hb2.mono hb1.size)⟩
end Go.Vir
