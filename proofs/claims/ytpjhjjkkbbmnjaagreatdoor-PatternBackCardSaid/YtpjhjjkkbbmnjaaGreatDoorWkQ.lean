/- class: Parse. -/
import Derived.Test.YtpjhjjkkbbmnjaaGreatDoorWkP
namespace Go.Vir
open Go Go.RowKit Go.Proofs Go.Shelf
attribute [local go_sem] Oper.semAt_some

/-- A text's set, and why there is none. -/
def cpB (s : List UInt8) (ss : List (List UInt8)) : Int × Int :=
  if namesB ss then (match parseSetB s ss with | some x => (x, 0) | none => (0, 70)) else (0, 2)

set_option maxRecDepth 100000 in
set_option maxHeartbeats 1600000 in
theorem class_Parse (s : List UInt8) (A : Option Addr) (n c : Nat) (ss : List (List UInt8)) (w : World) (hG : Globs w) (hn : n ≤ 1000000) (hz : Strs w w.heap.size A n ss) (hs : ∀ x ∈ ss, x.length ≤ 1000) (hl : s.length ≤ 1000000) :
    Calls Tryz.prog 104 #[.string ⟨s.toArray⟩, .slice A n c] w fun e w' => e = .returned (.tuple #[.int .i64 (cpB s ss).1, .int .i64 (cpB s ss).2]) ∧ Below w.heap.size w w' := by
  have hs' : ∀ x ∈ ss, x.length ≤ 1000000 := fun x hx => by have := hs x hx; omega
  obtain ⟨te, ve, hg⟩ := hG.cls
  have hgs := hG.size
  have hgl : 1 < w.heap.size := by omega
  rcases hN : namesB ss with _ | _
  · have ho := class_open_no A n c ss te ve w hn hz hs' hg hgl hN
    have hp : cpB s ss = (0, 2) := by simp [cpB, hN]
    rw [hp]
    have ht := fun W (hW : Below w.heap.size w W) => class_told 2 (.iface te ve) W rfl rfl (hG.below hW).typ (by have := (hG.below hW).size; omega)
    have Ht := Lib.hid ht
    clear ht hp hN hs hs'
    go_enter Tryz.func104, Tryz.ntmps104
    go_wp2_with (first
      | (go_at_call 89; refine ho.mono ?_; rintro e w1 ⟨rfl, hb1⟩; have ht1 := Ht.out w1 hb1)
      | (go_at_call 90; refine ht1.mono ?_; rintro e w2 ⟨rfl, hb2⟩))
    go_ret2
    exact ⟨rfl, hb1.trans (hb2.mono hb1.size)⟩
  · have ho := class_open_yes A n c ss w hn hz hs' hN
    have hc : cpB s ss = match parseSetB s ss with | some x => (x, 0) | none => (0, 70) := by simp [cpB, hN]
    have hpa := fun r W (hRd : Reader W r A n c ss) (hW : Below w.heap.size w W) => reader_parse r A n c ss s W hRd hN hl (hG.below hW)
    rcases hpo : parseSetB s ss with _ | x
    · have ht := fun te ve W (hW : Below w.heap.size w W) => class_told 70 (.iface te ve) W rfl rfl (hG.below hW).typ (by have := (hG.below hW).size; omega)
      rw [hpo] at hc hpa
      rw [hc]
      have Ht := Lib.hid ht
      have Hp := Lib.hid hpa
      clear ht hpa hN hs hs' hc hpo hg
      go_enter Tryz.func104, Tryz.ntmps104
      go_wp2_with (first
        | (go_at_call 89; refine ho.mono ?_; rintro e w1 ⟨r, rfl, hRd, hb1⟩; have hp1 := Hp.out r w1 hRd hb1)
        | (go_at_call 145; refine hp1.mono ?_; rintro e w2 ⟨⟨te2, ve2, rfl⟩, hb2⟩; have ht1 := Ht.out te2 ve2 w2 (hb1.trans (hb2.mono hb1.size)))
        | (go_at_call 90; refine ht1.mono ?_; rintro e w3 ⟨rfl, hb3⟩))
      go_ret2
      have hb12 := hb1.trans (hb2.mono hb1.size)
      exact ⟨rfl, hb12.trans (hb3.mono hb12.size)⟩
    · have ht := class_told_nil
      rw [hpo] at hc hpa
      rw [hc]
      have Hp := Lib.hid hpa
      clear hpa hN hs hs' hc hpo hg
      go_enter Tryz.func104, Tryz.ntmps104
      go_wp2_with (first
        | (go_at_call 89; refine ho.mono ?_; rintro e w1 ⟨r, rfl, hRd, hb1⟩; have hp1 := Hp.out r w1 hRd hb1)
        | (go_at_call 145; refine hp1.mono ?_; rintro e w2 ⟨hpe, hb2⟩; obtain rfl := hpe)
        | (go_at_call 90; refine (ht _).mono ?_; rintro e w3 ⟨rfl, hb3⟩))
      go_ret2
      have hb12 := hb1.trans (hb2.mono hb1.size)
      exact ⟨rfl, hb12.trans (hb3.mono hb12.size)⟩
end Go.Vir
