/- Joined texts: PrC, SpC, Srt, ShS, ErrS, SpD, ShG, ApR, SpE, TnA, TnB, TnC. -/
import Derived.Test.YtkkpkcnlocmnhaaGreatDoorJh
import Derived.Test.YtkkpkcnlocmnhaaGreatDoorProg
import Derived.Test.YtkkpkcnlocmnhaaGreatDoorJd
import Derived.Test.YtkkpkcnlocmnhaaGreatDoorJa
import Derived.Lib.Hide
import Derived.Shelf.SlSortCmp.WholeK
import Derived.Shelf.SlGeneric
import Derived.Ground.SlsfProg
import Derived.BigQuiet
import Derived.Deep.QuietTactic
import Derived.Shelf.Spec.SlicesGrow
import Derived.Deep.RegionHeld3
import Derived.Maps.RangeWalk
import Derived.Maps.OwnOps
import Derived.Maps.OwnSet
import Derived.Maps.Views
import Derived.Sort.OwnSorted
namespace Go.Vir
open Go Go.RowKit Go.Proofs Go.Shelf
attribute [local go_sem] Oper.semAt_some

set_option maxRecDepth 100000 in
set_option maxHeartbeats 4000000 in
theorem says_iter (R b1 b2 B0 : Nat) (A Ar : Option Addr) (n c r ck nr cr kk : Nat) (es : Array MapEntry) (loose : Bool) (ss : List (List UInt8)) (recs : List RecV) (EF : Value) (Ao0 : Option Addr) (no0 co0 : Nat) (W0 : World)
    (hgl : 2 < B0) (hB : B0 ≤ R) (hRl : R < W0.heap.size) (h1 : b1 < W0.heap.size) (h2 : b2 < W0.heap.size)
    (c1 : W0.heap[b1]? = some (.cells #[.slice Ar nr cr] 83 (0, 0))) (c2 : W0.heap[b2]? = some (.cells #[.pointer (some ⟨R, 0, none⟩)] 201 (0, 0)))
    (hRW : W0.heap[R]? = some (.cells (rdCs A n c r (kk : Int) loose Ao0 no0 co0) 207 (0, 0)))
    (hrec : Recs W0 W0.heap.size Ar nr recs) (hok : ∀ x ∈ recs, recOk x) (hnr : nr ≤ 1000) (hlen : ∀ x ∈ recs, x.fs.length ≤ 100000)
    (hr : W0.heap[r]? = some (.map es ck)) (ha : Asc es (kvOf ss 0)) (hEF : W0.cell? ⟨2, 0, none⟩ = some EF) (hEc : ∃ ep, EF = .iface 333 (.pointer (some ep))) :
    IterE Tryz.prog 174 #[.pointer (some ⟨b1, 0, none⟩), .pointer (some ⟨b2, 0, none⟩)] (evP ss kk loose recs).length (fun i => RdP (evP ss kk loose recs) R A n c r (kk : Int) loose i)
      (fun i xs _ _ => EvP (evP ss kk loose recs) EF i xs) (fun A B => Below A.heap.size A B) (fun k => k = R) B0 W0 := by
  obtain ⟨ep, rfl⟩ := hEc
  intro l J Jx W hW hJR hJM hY h0
  have hWs := hW.size
  have hne1 : b1 ≠ R := by
    rintro rfl
    rw [c1] at hRW; simp [rdCs] at hRW
  have hne2 : b2 ≠ R := by
    rintro rfl
    rw [c2] at hRW; simp [rdCs] at hRW
  have hner : r ≠ R := by
    rintro rfl
    rw [hr] at hRW; simp at hRW
  have hrl : r < W0.heap.size := (Array.getElem?_eq_some_iff.1 hr).1
  have hmapW : W.heap[r]? = some (.map es ck) := (hW.block r hrl).trans hr
  have hboxW : W.cell? ⟨b2, 0, none⟩ = some (.pointer (some ⟨R, 0, none⟩)) := cell_blk ((hW.block b2 h2).trans c2) 0
  have hrcW : W.cell? ⟨b1, 0, none⟩ = some (.slice Ar nr cr) := cell_blk ((hW.block b1 h1).trans c1) 0
  have hEW : W.cell? ⟨2, 0, none⟩ = some (.iface 333 (.pointer (some ep))) := (cellOf hW (by omega)).trans hEF
  have hRW1 := (hW.block R hRl).trans hRW
  have hrecW := hrec.below hW
  have hrl1 := hrec.len
  have hJ0 := h0 W.heap.size (Nat.le_refl _)
  have HJR := Lib.hid hJR
  have HJM := Lib.hid hJM
  have HY := Lib.hid hY
  have Hok := Lib.hid hok
  have Hlen := Lib.hid hlen
  have Hrec := Lib.hid hrecW
  have Hmap := Lib.hid hmapW
  have Ha := Lib.hid ha
  have HEW := Lib.hid hEW
  have HRW1 := Lib.hid hRW1
  have Hbox := Lib.hid hboxW
  generalize hE : evP ss kk loose recs = E at *
  have HE := Lib.hid hE
  clear hJR hJM hY h0 hok hlen hrec hrecW hmapW hr ha hEW hEF hRW1 hRW hboxW c1 c2 hE
  refine callsIn_wide.2 ?_
  go_enter Tryz.func174, Tryz.ntmps174
  go_step3
  go_wp2
  go_step3
  go_wp2_with fail
  go_loopw [5, 6, 7, 8, 9, 12] (fun _ _ _ _ _ v wr => ∃ (k i : Nat), k ≤ nr ∧ v = .int .i64 (k : Int) ∧ i ≤ E.length ∧ E.drop i = evP ss kk loose (recs.drop k) ∧ J W.heap.size i wr ∧ W.heap.size ≤ wr.heap.size ∧ Kp R W wr) (fun _ _ _ _ _ v _ => nr - (RowKit.intOf v).toNat)
  case atStart => exact ⟨0, 0, by omega, rfl, by omega, by simp [HE.out], hJ0, Nat.le_refl _, Kp.refl _ _⟩
  case round =>
    obtain ⟨k, i, hk, rfl, hi, hev, hJ, hsz, hkp⟩ := hrel
    obtain ⟨Ao, no, co, hRw, hout, hno⟩ := HJR.out _ _ _ hJ
    rcases Nat.lt_or_ge k nr with hlt | hge
    · have hkl : k < recs.length := by rw [hrl1]; exact hlt
      obtain ⟨rb, ro, rfl, hrb, hc⟩ := Hrec.out.at_ (by omega)
      have hne := rec_ne (hc k hkl) HRW1.out
      have hxo := Hok.out _ (List.getElem_mem hkl)
      have hxl := Hlen.out _ (List.getElem_mem hkl)
      have hcons := evP_cons ss kk loose recs[k] (recs.drop (k + 1))
      rw [← List.drop_eq_getElem_cons hkl, ← hev] at hcons
      obtain ⟨Af, nf, cf, r0, r1, r2, r3, hfs, hnf⟩ := hc k hkl
      have z0 := hkp.cell (by omega) hne r0
      have z1 := hkp.cell (by omega) hne r1
      have z2 := hkp.cell (by omega) hne r2
      have z3 := hkp.cell (by omega) hne r3
      have hfl := hfs.len
      have hstr : ∀ h : kk < (recs[k]).fs.length, ∃ fb fo, Af = some ⟨fb, fo, none⟩ ∧ fb < wr.heap.size ∧ wr.cell? ⟨fb, fo + kk, none⟩ = some (.string ⟨((recs[k]).fs[kk]).toArray⟩) := fun h => by
        obtain ⟨fb, fo, e, hfb, hfc⟩ := hfs.at_ (by omega)
        have h3 := hfc kk h
        exact ⟨fb, fo, e, by omega, hkp.cell (by omega) (str_ne h3 HRW1.out) h3⟩
      generalize recs[k] = x at *
      have hboxr : wr.cell? ⟨b2, 0, none⟩ = some (.pointer (some ⟨R, 0, none⟩)) := hkp.cell (by omega) hne2 Hbox.out
      have hEr : wr.cell? ⟨2, 0, none⟩ = some (.iface 333 (.pointer (some ep))) := hkp.cell (by omega) (by omega) HEW.out
      have hmr : wr.heap[r]? = some (.map es ck) := hkp r _ (by omega) hner Hmap.out rfl
      have hRl2 : R < wr.heap.size := (Array.getElem?_eq_some_iff.1 hRw).1
      have g0 : wr.cell? ⟨R, 0, none⟩ = some (.slice A n c) := cell_blk hRw 0
      have g1 : wr.cell? ⟨R, 1, none⟩ = some (.map (some r)) := cell_blk hRw 1
      have g2 : wr.cell? ⟨R, 2, none⟩ = some (.int .i64 (kk : Int)) := cell_blk hRw 2
      have g3 : wr.cell? ⟨R, 3, none⟩ = some (.bool loose) := cell_blk hRw 3
      have g4 : wr.cell? ⟨R, 4, none⟩ = some (.slice Ao no co) := cell_blk hRw 4
      have Hcons := Lib.hid hcons
      have Hstr := Lib.hid hstr
      have Hkp := Lib.hid hkp
      have Hout := Lib.hid hout
      have Hmr := Lib.hid hmr
      have HJ := Lib.hid hJ
      have HRw := Lib.hid hRw
      clear hc hcons hev hstr hkp hout hmr hJ hfs r0 r1 r2 r3 hRw
      go_upto_region 4 with fail
      have hbl4 : (wr.alloc (.cells #[.int .i64 x.line, .int .i64 x.f, .int .i64 x.t, .slice Af nf cf] 88)).heap[wr.heap.size]? = some (.cells #[.int .i64 x.line, .int .i64 x.f, .int .i64 x.t, .slice Af nf cf] 88 (0, 0)) := heap_new rfl
      have hb4 : Below wr.heap.size wr (wr.alloc (.cells #[.int .i64 x.line, .int .i64 x.f, .int .i64 x.t, .slice Af nf cf] 88)) := (Below.refl _ wr).alloc (Nat.le_refl _) _
      have hs4 : (wr.alloc (.cells #[.int .i64 x.line, .int .i64 x.f, .int .i64 x.t, .slice Af nf cf] 88)).heap.size = wr.heap.size + 1 := by simp
      generalize wr.alloc (.cells #[.int .i64 x.line, .int .i64 x.f, .int .i64 x.t, .slice Af nf cf] 88) = w4 at *
      have e0 := (cellOf hb4 (show b2 < wr.heap.size by omega)).trans hboxr
      have e1 := (cellOf hb4 (show 2 < wr.heap.size by omega)).trans hEr
      have i0 := (cellOf hb4 hRl2).trans g0
      have i1 := (cellOf hb4 hRl2).trans g1
      have i2 := (cellOf hb4 hRl2).trans g2
      have i3 := (cellOf hb4 hRl2).trans g3
      have i4 := (cellOf hb4 hRl2).trans g4
      have j3 : w4.cell? ⟨wr.heap.size, 3, none⟩ = some (.slice Af nf cf) := cell_blk hbl4 3
      clear g0 g1 g2 g3 g4 z0 z1 z2 z3 hboxr hEr
      go_quiet (fail)
      go_upto_if 23 with fail
      have hbq : Below w4.heap.size w4 (w4.drewN nq) := below_drewN _ _ _
      generalize w4.drewN nq = w5 at *
      have hs5 := hbq.size
      go_cut [6, 7] (fun s6 s7 wx => s6 = .int .i64 ((saysB ss kk x).getD 0) ∧ s7 = .bool (saysB ss kk x).isSome ∧ Below w4.heap.size w4 wx)
      case first =>
        rcases Nat.lt_or_ge kk x.fs.length with hkf | hkf
        · obtain ⟨fb, fo, rfl, hfb, hfc⟩ := Hstr.out hkf
          have hsay : saysB ss kk x = valB (x.fs[kk]) ss 0 := by unfold saysB; rw [List.getElem?_eq_getElem hkf]; rfl
          generalize x.fs[kk] = s at *
          have Hsay := Lib.hid hsay
          clear hsay
          have hdec : decide (kk < nf) = true := decide_eq_true (by omega)
          have j5 := (cellOf hb4 hfb).trans hfc
          go_upto_region 5 with fail
          have hval := names_value A n c r ck es ss s w5.drew ((hbq.block r (by have := (Array.getElem?_eq_some_iff.1 Hmr.out).1; omega)).trans ((hb4.block r (Array.getElem?_eq_some_iff.1 Hmr.out).1).trans Hmr.out)) Ha.out
          have Hval := Lib.hid hval
          have f0 := (cellOf hbq (show b2 < w4.heap.size by omega)).trans e0
          have f1 := (cellOf hbq (show R < w4.heap.size by omega)).trans i0
          have f2 := (cellOf hbq (show R < w4.heap.size by omega)).trans i1
          have f3 := (cellOf hbq (show R < w4.heap.size by omega)).trans i2
          have f4 := (cellOf hbq (show wr.heap.size < w4.heap.size by omega)).trans j3
          have f5 := (cellOf hbq (show fb < w4.heap.size by omega)).trans j5
          have hL : b2 < w5.heap.size ∧ R < w5.heap.size ∧ R < w5.heap.size ∧ R < w5.heap.size ∧ wr.heap.size < w5.heap.size ∧ fb < w5.heap.size := by refine ⟨?_, ?_, ?_, ?_, ?_, ?_⟩ <;> omega
          have HL := Lib.hid hL
          have hlt4 : kk < nf := by omega
          generalize hq : wr.heap.size = q at *

          refine wp_region_noPanic ?_
          refine wp_region_held_drew (S := (fun V => V.cell? ⟨b2, 0, none⟩ = some (.pointer (some ⟨R, 0, none⟩)) ∧ V.cell? ⟨R, 0, none⟩ = some (.slice A n c) ∧ V.cell? ⟨R, 1, none⟩ = some (.map (some r)) ∧ V.cell? ⟨R, 2, none⟩ = some (.int .i64 (kk : Int)) ∧ V.cell? ⟨q, 3, none⟩ = some (.slice (some ⟨fb, fo, none⟩) nf cf) ∧ V.cell? ⟨fb, fo + kk, none⟩ = some (.string ⟨s.toArray⟩))) (by kernel_rfl) ⟨f0, f1, f2, f3, f4, f5⟩ (fun hHeld => ?_)
          refine wpAnyH_take (i := 0) (v := .pointer (some ⟨R, 0, none⟩)) rfl (by kernel_rfl) (by kernel_rfl) (by kernel_rfl) (fun _ _ _ h => h) (.inl ⟨by rfl, fun V hV => by obtain ⟨c0, c1, c2, c3, c4, c5⟩ := hV; go_simp⟩) hHeld ?_
          try simp only [Act.put, qB, qC, qE, qF, qG]
          refine wpAnyH_take (i := 1) (v := .pointer (some ⟨R, 0, none⟩)) rfl (by kernel_rfl) (by kernel_rfl) (by kernel_rfl) (fun _ _ _ h => h) (.inl ⟨by rfl, fun V hV => by obtain ⟨c0, c1, c2, c3, c4, c5⟩ := hV; go_simp⟩) hHeld ?_
          try simp only [Act.put, qB, qC, qD, qE, qF, qG]
          refine wpAnyH_take (i := 2) (v := .pointer (some ⟨R, 0, none⟩)) rfl (by kernel_rfl) (by kernel_rfl) (by kernel_rfl) (fun _ _ _ h => h) (.inl ⟨by rfl, fun V hV => by obtain ⟨c0, c1, c2, c3, c4, c5⟩ := hV; go_simp⟩) hHeld ?_
          try simp only [Act.put, qB, qC, qD, qE, qF, qG]
          refine wpAnyH_take (i := 3) (v := .agg #[.slice A n c, .map (some r)]) rfl (by kernel_rfl) (by kernel_rfl) (by kernel_rfl) (fun _ _ _ h => h) (.inl ⟨by rfl, fun V hV => by obtain ⟨c0, c1, c2, c3, c4, c5⟩ := hV; go_simp⟩) hHeld ?_
          try simp only [Act.put, qB, qC, qD, qE, qF, qG]
          refine wpAnyH_take (i := 4) (v := .pointer (some ⟨q, 3, none⟩)) rfl (by kernel_rfl) (by kernel_rfl) (by kernel_rfl) (fun _ _ _ h => h) (.inl ⟨by rfl, fun V hV => by obtain ⟨c0, c1, c2, c3, c4, c5⟩ := hV; go_simp⟩) hHeld ?_
          try simp only [Act.put, qB, qC, qD, qE, qF, qG]
          refine wpAnyH_take (i := 5) (v := .slice (some ⟨fb, fo, none⟩) nf cf) rfl (by kernel_rfl) (by kernel_rfl) (by kernel_rfl) (fun _ _ _ h => h) (.inl ⟨by rfl, fun V hV => by obtain ⟨c0, c1, c2, c3, c4, c5⟩ := hV; go_simp⟩) hHeld ?_
          try simp only [Act.put, qB, qC, qD, qE, qF, qG]
          refine wpAnyH_take (i := 6) (v := .pointer (some ⟨R, 0, none⟩)) rfl (by kernel_rfl) (by kernel_rfl) (by kernel_rfl) (fun _ _ _ h => h) (.inl ⟨by rfl, fun V hV => by obtain ⟨c0, c1, c2, c3, c4, c5⟩ := hV; go_simp⟩) hHeld ?_
          try simp only [Act.put, qB, qC, qD, qE, qF, qG]
          refine wpAnyH_take (i := 7) (v := .pointer (some ⟨R, 0, none⟩)) rfl (by kernel_rfl) (by kernel_rfl) (by kernel_rfl) (fun _ _ _ h => h) (.inl ⟨by rfl, fun V hV => by obtain ⟨c0, c1, c2, c3, c4, c5⟩ := hV; go_simp⟩) hHeld ?_
          try simp only [Act.put, qB, qC, qD, qE, qF, qG]
          refine wpAnyH_take (i := 8) (v := .pointer (some ⟨R, 2, none⟩)) rfl (by kernel_rfl) (by kernel_rfl) (by kernel_rfl) (fun _ _ _ h => h) (.inl ⟨by rfl, fun V hV => by obtain ⟨c0, c1, c2, c3, c4, c5⟩ := hV; go_simp⟩) hHeld ?_
          try simp only [Act.put, qB, qC, qD, qE, qF, qG]
          refine wpAnyH_take (i := 9) (v := .int .i64 (kk : Int)) rfl (by kernel_rfl) (by kernel_rfl) (by kernel_rfl) (fun _ _ _ h => h) (.inl ⟨by rfl, fun V hV => by obtain ⟨c0, c1, c2, c3, c4, c5⟩ := hV; go_simp⟩) hHeld ?_
          try simp only [Act.put, qB, qC, qD, qE, qF, qG]
          refine wpAnyH_take (i := 10) (v := .pointer (some ⟨fb, fo + kk, none⟩)) rfl (by kernel_rfl) (by kernel_rfl) (by kernel_rfl) (fun _ _ _ h => h) (.inl ⟨by rfl, fun V hV => by obtain ⟨c0, c1, c2, c3, c4, c5⟩ := hV; go_simp⟩) hHeld ?_
          try simp only [Act.put, qB, qC, qD, qE, qF, qG]
          refine wpAnyH_take (i := 11) (v := .string ⟨s.toArray⟩) rfl (by kernel_rfl) (by kernel_rfl) (by kernel_rfl) (fun _ _ _ h => h) (.inl ⟨by rfl, fun V hV => by obtain ⟨c0, c1, c2, c3, c4, c5⟩ := hV; go_simp⟩) hHeld ?_
          try simp only [Act.put, qB, qC, qD, qE, qF, qG]
          refine wpAnyH_ready (rs := [12]) (by kernel_rfl) (by simp) ?_
          refine AllReadyH.cons rfl (fun K hK => ?_) AllReadyH.nil
          go_simp
          refine (Hval.out).mono ?_
          rintro e w6 ⟨rfl, hb6⟩
          obtain ⟨k0, k1, k2, k3, k4, k5⟩ := HL.out
          have d0 := (cellOf hb6 k0).trans f0
          have d1 := (cellOf hb6 k1).trans f1
          have d2 := (cellOf hb6 k2).trans f2
          have d3 := (cellOf hb6 k3).trans f3
          have d4 := (cellOf hb6 k4).trans f4
          have d5 := (cellOf hb6 k5).trans f5
          refine hK.out _ _ ⟨d0, d1, d2, d3, d4, d5⟩ (fun hHeld => ?_)
          clear hK K
          try simp only [Act.put, qB, qC, qD, qE, qF, qG]
          refine wpAnyH_take (i := 13) (v := .tuple #[.int .i64 ((valB s ss 0).getD 0), .bool (valB s ss 0).isSome]) rfl (by kernel_rfl) (by kernel_rfl) (by kernel_rfl) (fun _ _ _ h => h) (.inl ⟨by rfl, fun V hV => by obtain ⟨c0, c1, c2, c3, c4, c5⟩ := hV; go_simp⟩) hHeld ?_
          try simp only [Act.put, qB, qC, qD, qE, qF, qG]
          refine wpAnyH_take (i := 14) (v := .int .i64 ((valB s ss 0).getD 0)) rfl (by kernel_rfl) (by kernel_rfl) (by kernel_rfl) (fun _ _ _ h => h) (.inl ⟨by rfl, fun V hV => by obtain ⟨c0, c1, c2, c3, c4, c5⟩ := hV; go_simp⟩) hHeld ?_
          try simp only [Act.put, qB, qC, qD, qE, qF, qG]
          refine wpAnyH_take (i := 15) (v := .bool (valB s ss 0).isSome) rfl (by kernel_rfl) (by kernel_rfl) (by kernel_rfl) (fun _ _ _ h => h) (.inl ⟨by rfl, fun V hV => by obtain ⟨c0, c1, c2, c3, c4, c5⟩ := hV; go_simp⟩) hHeld ?_
          try simp only [Act.put, qB, qC, qD, qE, qF, qG]
          refine wpAnyH_take (i := 16) (v := .int .i64 ((valB s ss 0).getD 0)) rfl (by kernel_rfl) (by kernel_rfl) (by kernel_rfl) (fun _ _ _ h => h) (.inl ⟨by rfl, fun V hV => by obtain ⟨c0, c1, c2, c3, c4, c5⟩ := hV; go_simp⟩) hHeld ?_
          try simp only [Act.put, qB, qC, qD, qE, qF, qG]
          refine wpAnyH_take (i := 17) (v := .bool (valB s ss 0).isSome) rfl (by kernel_rfl) (by kernel_rfl) (by kernel_rfl) (fun _ _ _ h => h) (.inl ⟨by rfl, fun V hV => by obtain ⟨c0, c1, c2, c3, c4, c5⟩ := hV; go_simp⟩) hHeld ?_
          try simp only [Act.put, qB, qC, qD, qE, qF, qG]
          refine wpAnyH_done (by kernel_rfl) ?_ _
          refine NoPanic.normal ?_

          have hb7 : Below w4.heap.size w4 w6 := hbq.drew.trans (hb6.mono hs5)
          go_wp2_with fail
          go_meet
          exact ⟨by rw [Hsay.out], by rw [Hsay.out], hb7⟩
        · have hsay : saysB ss kk x = none := by unfold saysB; rw [List.getElem?_eq_none hkf]; rfl
          have Hsay := Lib.hid hsay
          have hdec : decide (kk < nf) = false := decide_eq_false (by omega)
          clear hsay
          go_wp2_with fail
          go_meet
          exact ⟨by rw [Hsay.out]; rfl, by rw [Hsay.out]; rfl, hbq⟩
      case rest =>
        obtain ⟨rfl, rfl, hb5⟩ := hcut
        have hs5c := hb5.size
        have hbw : Below wr.heap.size wr wc := hb4.trans (hb5.mono (by omega))
        have hblc := (hb5.block wr.heap.size (by omega)).trans hbl4
        have ec0 := (cellOf hb5 (show b2 < w4.heap.size by omega)).trans e0
        have ec1 := (cellOf hb5 (show 2 < w4.heap.size by omega)).trans e1
        have ec3 := (cellOf hb5 (show R < w4.heap.size by omega)).trans i3
        have ec4 := (cellOf hb5 (show R < w4.heap.size by omega)).trans i4
        have y0 : wc.cell? ⟨wr.heap.size, 0, none⟩ = some (.int .i64 x.line) := cell_blk hblc 0
        have y1 : wc.cell? ⟨wr.heap.size, 1, none⟩ = some (.int .i64 x.f) := cell_blk hblc 1
        have y2 : wc.cell? ⟨wr.heap.size, 2, none⟩ = some (.int .i64 x.t) := cell_blk hblc 2
        have hlaps : ∀ v : Int, Calls Tryz.prog 176 #[.pointer (some ⟨R, 0, none⟩), .agg #[.int .i64 x.f, .int .i64 x.t, .int .i64 v]] (wc.alloc (.cells #[.int .i64 x.f, .int .i64 x.t, .int .i64 v] 139)) fun e w' => e = .returned (.bool ((outE E i).any (lapR (rgOf x v)))) ∧ Below (wc.heap.size + 1) (wc.alloc (.cells #[.int .i64 x.f, .int .i64 x.t, .int .i64 v] 139)) w' := fun v => by
          have hba : Below wr.heap.size wr (wc.alloc (.cells #[.int .i64 x.f, .int .i64 x.t, .int .i64 v] 139)) := hbw.alloc hbw.size _
          have := reader_laps R Ao no co (outE E i) (rgOf x v) (wc.alloc (.cells #[.int .i64 x.f, .int .i64 x.t, .int .i64 v] 139)) hxo.2.1 ((World.cell?_alloc_lt _ _ _ (show R < wc.heap.size by omega)).trans ec4) (by simp; omega) ((Hout.out.below hba).more hba.size) (by omega)
          rw [World.size_alloc] at this
          exact this
        have hgo : ∀ w7 : World, Below wr.heap.size wr w7 → ∀ xs, EvP E (.iface 333 (.pointer (some ep))) i xs → (i < E.length) ∧ YieldAt Fence.wide 0 Tryz.prog l xs w7 (fun e W' => (e = .returned (.bool true) ∧ J W.heap.size (i + 1) W' ∧ KeepE (fun k => k = R) B0 W.heap.size w7 W') ∨ (e = .returned (.bool false) ∧ Jx i W')) := by
          intro w7 hb7 xs hx
          have hin : i < E.length := by
            obtain ⟨_, he, _⟩ := hx
            exact (List.getElem?_eq_some_iff.1 he).1
          exact ⟨hin, HY.out _ i xs wr w7 hin (Nat.le_refl _) hsz HJ.out hb7 hx⟩
        have Hlaps := Lib.hid hlaps
        have Hgo0 := Lib.hid hgo
        have Hbw := Lib.hid hbw
        clear hlaps hgo hbw hblc e0 e1 i0 i1 i2 i3 i4 j3 ec4 hbl4 hb5 hb4

        rcases hs : saysB ss kk x with _ | v
        · rw [hs] at Hcons
          simp only [Option.getD_none, Option.isSome_none]
          have ea0 : (wc.alloc (.cells #[.int .i64 x.f, .int .i64 x.t, .int .i64 0] 139)).cell? ⟨b2, 0, none⟩ = some (.pointer (some ⟨R, 0, none⟩)) := (World.cell?_alloc_lt _ _ _ (show b2 < wc.heap.size by omega)).trans ec0
          go_wp2_with fail
          refine (Hlaps.out _).mono ?_
          rintro e w7 ⟨rfl, hb7⟩
          have hbx : Below wr.heap.size wr w7 := (Hbw.out.alloc Hbw.out.size _).trans (hb7.mono (by omega))
          have hx0 : w7.cell? ⟨b2, 0, none⟩ = some (.pointer (some ⟨R, 0, none⟩)) := (cellOf hb7 (by omega)).trans ((World.cell?_alloc_lt _ _ _ (show b2 < wc.heap.size by omega)).trans ec0)
          have hx1 : w7.cell? ⟨2, 0, none⟩ = some (.iface 333 (.pointer (some ep))) := (cellOf hb7 (by omega)).trans ((World.cell?_alloc_lt _ _ _ (show 2 < wc.heap.size by omega)).trans ec1)
          have hx3 : w7.cell? ⟨R, 3, none⟩ = some (.bool loose) := (cellOf hb7 (by omega)).trans ((World.cell?_alloc_lt _ _ _ (show R < wc.heap.size by omega)).trans ec3)
          have hx4 : w7.cell? ⟨wr.heap.size, 0, none⟩ = some (.int .i64 x.line) := (cellOf hb7 (by omega)).trans ((World.cell?_alloc_lt _ _ _ (show wr.heap.size < wc.heap.size by omega)).trans y0)
          have hyb := (hb7.block wc.heap.size (by omega)).trans (heap_new rfl)
          have hx5 := cell_blk hyb 0
          have hx6 := cell_blk hyb 1
          have hx7 := cell_blk hyb 2
          simp only [List.getElem?_toArray, List.getElem?_cons_zero, List.getElem?_cons_succ] at hx5 hx6 hx7
          have hsw : W.heap.size ≤ w7.heap.size := by have := hbx.size; omega
          have Hs5 := Lib.hid hsw
          have Hkp5 := Lib.hid (Hkp.out.below hsz hbx)
          have Hgo := Lib.hid (Hgo0.out w7 hbx)
          have Hbx := Lib.hid hbx
          clear hb7 hbx hyb ea0 ec0 ec1 ec3 y0 y1 y2
          rcases loose with _ | _
          · simp only [Bool.false_eq_true, if_false] at Hcons
            have hev2 : E.drop (i + 1) = evP ss kk false (recs.drop (k + 1)) := by
              have := congrArg (List.drop 1) Hcons.out
              rw [List.drop_drop] at this
              simpa using this
            have hei : E[i]? = some (x, none) := by
              have := congrArg (fun l => l[0]?) Hcons.out
              simpa using this
            have Hev2 := Lib.hid hev2
            have Hey := Lib.hid (show EvP E (.iface 333 (.pointer (some ep))) i #[.agg #[.int .i64 x.f, .int .i64 x.t, .int .i64 0], (.iface 239 (.agg #[.int .i64 x.line, .int .i64 40, (.iface 333 (.pointer (some ep)))]))] from ⟨_, hei, rfl⟩)
            clear hev2 hei
            rcases hL : (outE E i).any (lapR (rgOf x 0)) with _ | _
            · clear hL
              obtain ⟨hin, hy⟩ := Hgo.out _ Hey.out
              obtain ⟨fn, tmps, assign, body, hy, hRd⟩ := hy
              go_upto_region 13 with fail
              refine (wpIn_wide (n := 0)).1 ?_
              gi_wp2_with fail
              refine ⟨rfl, hRd.mono ?_⟩
              rintro e W' (⟨rfl, hJ', hk'⟩ | ⟨rfl, hJx'⟩)
              · have hkp' := Hkp5.out.keep (Nat.le_refl _) hk'
                have hs' := hk'.size
                have hs5 := Hs5.out
                clear hk' hRd hy
                gi_wp2
                go_wp2
                go_roundw
                case rel => exact ⟨k + 1, i + 1, by omega, by go_num, by omega, Hev2.out, hJ', by omega, hkp'⟩
                case measure => simp [RowKit.intOf]; omega
              · clear hRd hy
                gi_wp2
                go_wp2
                simp only [Exit.noGoto]
                go_end0
                exact ⟨⟨_, rfl⟩, .inr ⟨_, hin, hJx'⟩⟩
            · clear hL
              obtain ⟨hin, hy⟩ := Hgo.out _ Hey.out
              obtain ⟨fn, tmps, assign, body, hy, hRd⟩ := hy
              go_upto_region 13 with fail
              refine (wpIn_wide (n := 0)).1 ?_
              gi_wp2_with fail
              refine ⟨rfl, hRd.mono ?_⟩
              rintro e W' (⟨rfl, hJ', hk'⟩ | ⟨rfl, hJx'⟩)
              · have hkp' := Hkp5.out.keep (Nat.le_refl _) hk'
                have hs' := hk'.size
                have hs5 := Hs5.out
                clear hk' hRd hy
                gi_wp2
                go_wp2
                go_roundw
                case rel => exact ⟨k + 1, i + 1, by omega, by go_num, by omega, Hev2.out, hJ', by omega, hkp'⟩
                case measure => simp [RowKit.intOf]; omega
              · clear hRd hy
                gi_wp2
                go_wp2
                simp only [Exit.noGoto]
                go_end0
                exact ⟨⟨_, rfl⟩, .inr ⟨_, hin, hJx'⟩⟩
          · simp only [if_true] at Hcons
            rcases hL : (outE E i).any (lapR (rgOf x 0)) with _ | _
            · clear hL
              go_wp2_with fail
              go_roundw
              case rel => exact ⟨k + 1, i, by omega, by go_num, hi, Hcons.out, HJM.out _ _ _ _ HJ.out Hbx.out, Hs5.out, Hkp5.out⟩
              case measure => simp [RowKit.intOf]; omega
            · clear hL
              go_wp2_with fail
              go_roundw
              case rel => exact ⟨k + 1, i, by omega, by go_num, hi, Hcons.out, HJM.out _ _ _ _ HJ.out Hbx.out, Hs5.out, Hkp5.out⟩
              case measure => simp [RowKit.intOf]; omega
        · rw [hs] at Hcons
          simp only [Option.getD_some, Option.isSome_some]
          have ea0 : (wc.alloc (.cells #[.int .i64 x.f, .int .i64 x.t, .int .i64 v] 139)).cell? ⟨b2, 0, none⟩ = some (.pointer (some ⟨R, 0, none⟩)) := (World.cell?_alloc_lt _ _ _ (show b2 < wc.heap.size by omega)).trans ec0
          go_wp2_with fail
          refine (Hlaps.out _).mono ?_
          rintro e w7 ⟨rfl, hb7⟩
          have hbx : Below wr.heap.size wr w7 := (Hbw.out.alloc Hbw.out.size _).trans (hb7.mono (by omega))
          have hx0 : w7.cell? ⟨b2, 0, none⟩ = some (.pointer (some ⟨R, 0, none⟩)) := (cellOf hb7 (by omega)).trans ((World.cell?_alloc_lt _ _ _ (show b2 < wc.heap.size by omega)).trans ec0)
          have hx1 : w7.cell? ⟨2, 0, none⟩ = some (.iface 333 (.pointer (some ep))) := (cellOf hb7 (by omega)).trans ((World.cell?_alloc_lt _ _ _ (show 2 < wc.heap.size by omega)).trans ec1)
          have hx3 : w7.cell? ⟨R, 3, none⟩ = some (.bool loose) := (cellOf hb7 (by omega)).trans ((World.cell?_alloc_lt _ _ _ (show R < wc.heap.size by omega)).trans ec3)
          have hx4 : w7.cell? ⟨wr.heap.size, 0, none⟩ = some (.int .i64 x.line) := (cellOf hb7 (by omega)).trans ((World.cell?_alloc_lt _ _ _ (show wr.heap.size < wc.heap.size by omega)).trans y0)
          have hyb := (hb7.block wc.heap.size (by omega)).trans (heap_new rfl)
          have hx5 := cell_blk hyb 0
          have hx6 := cell_blk hyb 1
          have hx7 := cell_blk hyb 2
          simp only [List.getElem?_toArray, List.getElem?_cons_zero, List.getElem?_cons_succ] at hx5 hx6 hx7
          have hsw : W.heap.size ≤ w7.heap.size := by have := hbx.size; omega
          have Hs5 := Lib.hid hsw
          have Hkp5 := Lib.hid (Hkp.out.below hsz hbx)
          have Hgo := Lib.hid (Hgo0.out w7 hbx)
          have Hbx := Lib.hid hbx
          clear hb7 hbx hyb ea0 ec0 ec1 ec3 y0 y1 y2
          rcases hL : (outE E i).any (lapR (rgOf x v)) with _ | _
          · have HLL := Lib.hid hL
            clear hL
            have hev2 : E.drop (i + 1) = evP ss kk loose (recs.drop (k + 1)) := by
              have := congrArg (List.drop 1) Hcons.out
              rw [List.drop_drop] at this
              simpa using this
            have hei : E[i]? = some (x, some v) := by
              have := congrArg (fun l => l[0]?) Hcons.out
              simpa using this
            have Hev2 := Lib.hid hev2
            have Hey := Lib.hid (show EvP E (.iface 333 (.pointer (some ep))) i #[.agg #[.int .i64 x.f, .int .i64 x.t, .int .i64 v], .nilIface] from ⟨_, hei, by simp only [evV]; rw [HLL.out]; rfl⟩)
            clear hev2 hei
            obtain ⟨hin, hy⟩ := Hgo.out _ Hey.out
            obtain ⟨fn, tmps, assign, body, hy, hRd⟩ := hy
            go_upto_region 13 with fail
            refine (wpIn_wide (n := 0)).1 ?_
            gi_wp2_with fail
            refine ⟨rfl, hRd.mono ?_⟩
            rintro e W' (⟨rfl, hJ', hk'⟩ | ⟨rfl, hJx'⟩)
            · have hkp' := Hkp5.out.keep (Nat.le_refl _) hk'
              have hs' := hk'.size
              have hs5 := Hs5.out
              clear hk' hRd hy
              gi_wp2
              go_wp2
              go_roundw
              case rel => exact ⟨k + 1, i + 1, by omega, by go_num, by omega, Hev2.out, hJ', by omega, hkp'⟩
              case measure => simp [RowKit.intOf]; omega
            · clear hRd hy
              gi_wp2
              go_wp2
              simp only [Exit.noGoto]
              go_end0
              exact ⟨⟨_, rfl⟩, .inr ⟨_, hin, hJx'⟩⟩
          · have HLL := Lib.hid hL
            clear hL
            have hev2 : E.drop (i + 1) = evP ss kk loose (recs.drop (k + 1)) := by
              have := congrArg (List.drop 1) Hcons.out
              rw [List.drop_drop] at this
              simpa using this
            have hei : E[i]? = some (x, some v) := by
              have := congrArg (fun l => l[0]?) Hcons.out
              simpa using this
            have Hev2 := Lib.hid hev2
            have Hey := Lib.hid (show EvP E (.iface 333 (.pointer (some ep))) i #[.agg #[.int .i64 x.f, .int .i64 x.t, .int .i64 v], (.iface 239 (.agg #[.int .i64 x.line, .int .i64 30, (.iface 333 (.pointer (some ep)))]))] from ⟨_, hei, by simp only [evV]; rw [HLL.out]; rfl⟩)
            clear hev2 hei
            obtain ⟨hin, hy⟩ := Hgo.out _ Hey.out
            obtain ⟨fn, tmps, assign, body, hy, hRd⟩ := hy
            go_upto_region 13 with fail
            refine (wpIn_wide (n := 0)).1 ?_
            gi_wp2_with fail
            refine ⟨rfl, hRd.mono ?_⟩
            rintro e W' (⟨rfl, hJ', hk'⟩ | ⟨rfl, hJx'⟩)
            · have hkp' := Hkp5.out.keep (Nat.le_refl _) hk'
              have hs' := hk'.size
              have hs5 := Hs5.out
              clear hk' hRd hy
              gi_wp2
              go_wp2
              go_roundw
              case rel => exact ⟨k + 1, i + 1, by omega, by go_num, by omega, Hev2.out, hJ', by omega, hkp'⟩
              case measure => simp [RowKit.intOf]; omega
            · clear hRd hy
              gi_wp2
              go_wp2
              simp only [Exit.noGoto]
              go_end0
              exact ⟨⟨_, rfl⟩, .inr ⟨_, hin, hJx'⟩⟩
    · clear hkp
      have hend : i = E.length := by
        have := congrArg List.length hev
        rw [List.drop_eq_nil_of_le (show recs.length ≤ k by omega)] at this
        simp [evP] at this
        omega
      subst hend
      go_wp2_with fail
      simp only [Exit.noGoto]
      go_end0
      exact ⟨⟨_, rfl⟩, .inl ⟨_, hJ⟩⟩
end Go.Vir


namespace Go.Vir
open Go Go.RowKit Go.Proofs Go.Shelf
attribute [local go_sem] Oper.semAt_some

set_option maxRecDepth 100000 in
set_option maxHeartbeats 2000000 in
theorem clone_rgs (A : Option Addr) (n c : Nat) (l : List Rg) (w : World) (hx : Rgs w w.heap.size A n l) (hn : n ≤ 1000000) :
    Calls Tryz.prog 196 #[.slice A n c] w fun e w' => ∃ v, e = .returned v ∧ w'.ownsRow w.heap.size 139 3 v l.length (rgVs l) ∧ Below w.heap.size w w' := by
  have q : ∀ (w : World) (a : Option Addr) (n c n' c' : Nat), (binOp .eql 93 (.slice a n c) (.slice none n' c')).run Tryz.prog w = .ok (.bool a.isNone) w := fun w a n c n' c' => Lib.run_eql_slice_nil w _ _ a n c n' c' Tryz.underlying93
  have hlen := hx.len
  obtain ⟨i0, hi0, hz0, hz1, hz2⟩ := info_parts rg_info
  cases A with
  | none =>
    have h0 : n = 0 := by
      rcases Nat.eq_zero_or_pos n with h | h
      · exact h
      · obtain ⟨b, o, e, _⟩ := hx.at_ h; cases e
    have hl : l = [] := List.eq_nil_of_length_eq_zero (by omega)
    subst hl
    subst h0
    clear hx
    go_enter Tryz.func196, Tryz.ntmps196
    go_wp2_with fail
    go_ret
    exact ⟨_, rfl, World.ownsRow_nil _ _ _ _, Below.refl _ _⟩
  | some ad =>
    have hcells := hx.cells ad rfl
    have hvl := rgVs_len l
    have hone := rgVs_one l
    rw [hlen] at hvl ⊢
    generalize rgVs l = vs at *
    have Hc := Lib.hid hcells
    have Hone := Lib.hid hone
    clear hx hlen hcells hone
    go_enter Tryz.func196, Tryz.ntmps196
    go_wp2_with (at_builtin; refine wpList_append_own _ rfl _ _ 93 rfl w.heap.size 139 i0 (.agg #[.int .i64 0, .int .i64 0, .int .i64 0]) 3 24 Tryz.underlying93 hi0 hz0 hz1 hz2 rfl (by decide) _ _ _ rfl (World.ownsRow_made w #[] 0 (Nat.le_refl _) (Nat.zero_le _) rfl) ad n c vs rfl ?qc1 ?qc2 ?qc3 ?qc4 ?qc5 ?qc6 ?_)
    case qc1 => exact hvl
    case qc2 =>
      intro j u hj
      exact Lib.cell?_alloc_some _ (Hc.out j u hj)
    case qc3 => exact Hone.out
    case qc4 => simp only [maxLen]; omega
    case qc5 => omega
    case qc6 => simp
    intro v' w1 hown hgrow hnil
    go_wp2_with fail
    go_ret
    exact ⟨v', rfl, by simpa using hown, ((Below.refl _ w).alloc (Nat.le_refl _) _).grown hgrow (by simp) (by intro k hk; simp [Value.ownBlock] at hk; omega)⟩
end Go.Vir


namespace Go.Vir
open Go Go.RowKit Go.Proofs Go.Shelf Go.Sort

abbrev RgO := { x : Rg // oneR x = true }
instance rgInh : Inhabited RgO := ⟨⟨{ f := 0, t := 0, v := 0 }, by decide⟩⟩
def encO (x : RgO) : List Value := [.int .i64 x.1.f, .int .i64 x.1.t, .int .i64 x.1.v]
def cmpO (x y : RgO) : Int := x.1.f - y.1.f
theorem ltO (x y : RgO) : ltOf cmpO x y = decide (x.1.f < y.1.f) := by
  unfold ltOf cmpO
  rw [Bool.eq_iff_iff, decide_eq_true_eq, decide_eq_true_eq]
  omega
theorem swoO : SWO (ltOf cmpO) where
  irrefl x := by rw [ltO]; simp
  trans x y z h1 h2 := by rw [ltO] at *; simp at *; omega
  ntrans x y z h1 h2 := by rw [ltO] at *; simp at *; omega
theorem encO_len (x : RgO) : (encO x).length = 3 := rfl
theorem encO_one (x : RgO) : ∀ v ∈ encO x, v.oneCell' = true := fun v hv => by
  simp [encO] at hv
  rcases hv with rfl | rfl | rfl <;> rfl
def upO (l : List Rg) (h : ∀ x ∈ l, oneR x = true) : List RgO := l.pmap (fun x hx => ⟨x, hx⟩) h
theorem upO_val (l : List Rg) (h : ∀ x ∈ l, oneR x = true) : (upO l h).map (·.1) = l := by
  unfold upO
  rw [List.map_pmap]
  exact List.pmap_eq_map .. |>.trans (List.map_id _)
theorem upO_len (l : List Rg) (h : ∀ x ∈ l, oneR x = true) : (upO l h).length = l.length := by simp [upO]

theorem flat_get (d : Array RgO) (j i : Nat) (hj : j < d.size) (hi : i < 3) : (flatK encO 3 d)[j * 3 + i]! = (encO d[j]!)[i]! := by
  rw [get_flatK encO 3 d _ (by omega), show (j * 3 + i) / 3 = j by omega, show (j * 3 + i) % 3 = i by omega]
theorem holds_rgs {w : World} {b o : Nat} {d : Array RgO} (hf : ∀ k, w.frozen? ⟨b, k, none⟩ = false)
    (hc : ∀ (j : Nat) (h : j < d.size), w.cell? ⟨b, o + j * 3, none⟩ = some (.int .i64 d[j].1.f) ∧ w.cell? ⟨b, o + j * 3 + 1, none⟩ = some (.int .i64 d[j].1.t) ∧ w.cell? ⟨b, o + j * 3 + 2, none⟩ = some (.int .i64 d[j].1.v)) : HoldsK encO 3 w b o d := by
  intro t ht
  rw [size_flatK] at ht
  refine ⟨?_, hf _⟩
  have hj : t / 3 < d.size := by omega
  obtain ⟨c1, c2, c3⟩ := hc (t / 3) hj
  have hd : d[t / 3]! = d[t / 3] := getElem!_pos d _ hj
  simp only [id]
  rcases (by omega : t = t / 3 * 3 + 0 ∨ t = t / 3 * 3 + 1 ∨ t = t / 3 * 3 + 2) with e | e | e
  · rw [e, flat_get d _ 0 hj (by omega), hd, show o + (t / 3 * 3 + 0) = o + t / 3 * 3 by omega, c1]; rfl
  · rw [e, flat_get d _ 1 hj (by omega), hd, show o + (t / 3 * 3 + 1) = o + t / 3 * 3 + 1 by omega, c2]; rfl
  · rw [e, flat_get d _ 2 hj (by omega), hd, show o + (t / 3 * 3 + 2) = o + t / 3 * 3 + 2 by omega, c3]; rfl

theorem sorted_heap {w : World} {g n : Nat} {os : Array Obj} {cur : Array Value} {e : TypeId} (d : Array RgO) (hb : w.heap[g]? = some (.cells cur e (0, 0))) :
    (sortWorldK encO 3 w g 0 n d os).heap[g]? = some (.cells (putCells id 0 (flatK encO 3 d) cur) e (0, 0)) := by
  have hg : g < w.heap.size := (Array.getElem?_eq_some_iff.1 hb).1
  unfold sortWorldK putRowK
  rw [heap_grow_old _ _ (by simpa using hg)]
  simp [putRow, mapBlock, Sort.ahead, Array.getElem?_modify, hb, onCells]
theorem sorted_grown {w : World} {g n : Nat} {os : Array Obj} (d : Array RgO) : w.grownBy (sortWorldK encO 3 w g 0 n d os) (some g) := by
  unfold sortWorldK putRowK
  refine ⟨rfl, rfl, rfl, by simp, fun k hk hne => ?_⟩
  rw [heap_grow_old _ _ (by simpa using hk)]
  have : g ≠ k := fun e => hne (by rw [e])
  simp [putRow, mapBlock, Sort.ahead, Array.getElem?_modify, this]
theorem sorted_rgs {w : World} {g n : Nat} {os : Array Obj} {cur : Array Value} {e : TypeId} (d : Array RgO) (hb : w.heap[g]? = some (.cells cur e (0, 0))) (hsz : d.size * 3 ≤ cur.size) :
    Rgs (sortWorldK encO 3 w g 0 n d os) (sortWorldK encO 3 w g 0 n d os).heap.size (some ⟨g, 0, none⟩) d.size (d.toList.map (·.1)) := by
  have hh := sorted_heap (n := n) (os := os) d hb
  refine ⟨by simp, fun _ => ⟨g, 0, rfl, (Array.getElem?_eq_some_iff.1 hh).1, fun j hj => ?_⟩⟩
  have hjd : j < d.size := by simpa using hj
  have key : ∀ i, i < 3 → (sortWorldK encO 3 w g 0 n d os).cell? ⟨g, j * 3 + i, none⟩ = some ((encO d[j]!)[i]!) := fun i hi => by
    rw [cell_blk hh]
    have h1 : j * 3 + i < cur.size := by omega
    have h2 : j * 3 + i < d.size * 3 := by omega
    simp only [putCells, Array.getElem?_mapIdx, Array.getElem?_eq_getElem h1, Option.map_some, Nat.zero_le, true_and, Nat.zero_add, size_flatK, h2, if_true, Nat.sub_zero, id, flat_get d j i hjd hi]
  have hd : d[j]! = d[j] := getElem!_pos d _ hjd
  have k0 := key 0 (by omega)
  have k1 := key 1 (by omega)
  have k2 := key 2 (by omega)
  rw [hd] at k0 k1 k2
  simp only [Nat.zero_add, List.getElem_map, Array.getElem_toList]
  exact ⟨k0, k1, k2⟩

theorem rise_of_sorted : ∀ {l : List Rg} {a : Int}, (∀ x ∈ l, oneR x = true ∧ a < x.f) → l.Pairwise (fun x y => lapR y x = false) → l.Pairwise (fun x y => ¬ y.f < x.f) → riseR a l = true
  | [], _, _, _, _ => rfl
  | x :: l, a, h, h1, h2 => by
    rw [List.pairwise_cons] at h1 h2
    simp only [riseR, Bool.and_eq_true, decide_eq_true_eq]
    obtain ⟨hx, hax⟩ := h x (List.mem_cons_self ..)
    refine ⟨hx, hax, rise_of_sorted (fun y hy => ?_) h1.2 h2.2⟩
    have hy1 := (h y (List.mem_cons_of_mem _ hy)).1
    have o1 := oneR_iff.1 hx
    have o2 := oneR_iff.1 hy1
    have hl := h1.1 y hy
    have hs := h2.1 y hy
    have hn : ¬ (y.f ≤ x.t ∧ x.f ≤ y.t) := fun hc => by rw [lapR_iff.2 hc] at hl; cases hl
    exact ⟨hy1, by omega⟩
theorem sorted_is {l : List Rg} (h : ∀ x ∈ l, oneR x = true) (ha : apartR l) {d' : Array RgO} (hp : PermIn 0 l.length (upO l h).toArray d') (hs : SortedIn (ltOf cmpO) 0 l.length d') : d'.toList.map (·.1) = sortR l := by
  obtain ⟨hsz, _, hperm⟩ := hp
  have hsz2 : d'.size = l.length := by rw [hsz]; simp [upO_len]
  have e1 : d'.extract 0 l.length = d' := by rw [← hsz2]; simp
  have e2 : (upO l h).toArray.extract 0 l.length = (upO l h).toArray := by
    have : (upO l h).toArray.size = l.length := by simp [upO_len]
    rw [← this]; simp
  rw [e1, e2] at hperm
  have hpl : (d'.toList.map (·.1)).Perm l := by
    have := hperm.map (fun x : RgO => x.1)
    rw [show (upO l h).toArray.toList = upO l h from rfl, upO_val] at this
    exact this
  have hsym : ∀ {x y : Rg}, lapR y x = false → lapR x y = false := fun {x y} hxy => by
    rw [Bool.eq_false_iff] at hxy ⊢
    intro hc
    apply hxy
    rw [lapR_iff] at hc ⊢
    exact ⟨hc.2, hc.1⟩
  have hap : (d'.toList.map (·.1)).Pairwise (fun x y => lapR y x = false) := (hpl.pairwise_iff hsym).2 ha
  have hso : (d'.toList.map (·.1)).Pairwise (fun x y : Rg => ¬ y.f < x.f) := by
    rw [List.pairwise_iff_getElem]
    intro i j hi hj hij
    have hi2 : i < d'.size := by simpa using hi
    have hj2 : j < d'.size := by simpa using hj
    have := hs i j (Nat.zero_le _) hij (by omega)
    rw [ltO, decide_eq_false_iff_not, getElem!_pos d' i hi2, getElem!_pos d' j hj2] at this
    simpa using this
  have hr := rise_of_sorted (a := -1) (fun x hx => by
    have hx2 := h x (hpl.mem_iff.1 hx)
    exact ⟨hx2, by have := (oneR_iff.1 hx2).1; omega⟩) hap hso
  exact rise_ext hr (sort_rise l ha h) (fun x => by rw [hpl.mem_iff, sort_mem])
end Go.Vir


namespace Go.Proofs
open Go.Shelf
def Tryz.sortRg_ren : Go.Shelf.Ren := ⟨fun | 6 => 202 | 15 => 107 | 14 => 217 | 28 => 133 | 29 => 134 | 20 => 226 | 21 => 227 | 22 => 228 | 23 => 229 | 24 => 230 | 25 => 231 | 26 => 232 | 27 => 233 | 46 => 237 | 47 => 150 | 48 => 151 | 49 => 238 | 50 => 239 | 57 => 249 | n => n, fun | 22 => 93 | 24 => 139 | 25 => 281 | 3 => 3 | 39 => 157 | 0 => 0 | 53 => 197 | 55 => 199 | 4 => 4 | 46 => 191 | 45 => 190 | 50 => 134 | 5 => 5 | 9 => 9 | 66 => 226 | 70 => 230 | 76 => 253 | 77 => 254 | n => n, fun | n => n⟩
theorem Tryz.sortRg : Go.Proofs.SlLaysF0.n6 Tryz.prog Tryz.sortRg_ren := {
  mixed := by kernel_rfl
  f6 := ⟨Tryz.f202.name, by decide, Tryz.func202.trans (congrArg some (by kernel_rfl))⟩
  f14 := ⟨Tryz.f217.name, by decide, Tryz.func217.trans (congrArg some (by kernel_rfl))⟩
  f15 := Tryz.func107.trans (congrArg some (by kernel_rfl))
  f20 := ⟨Tryz.f226.name, by decide, Tryz.func226.trans (congrArg some (by kernel_rfl))⟩
  f21 := ⟨Tryz.f227.name, by decide, Tryz.func227.trans (congrArg some (by kernel_rfl))⟩
  f22 := ⟨Tryz.f228.name, by decide, Tryz.func228.trans (congrArg some (by kernel_rfl))⟩
  f23 := ⟨Tryz.f229.name, by decide, Tryz.func229.trans (congrArg some (by kernel_rfl))⟩
  f24 := ⟨Tryz.f230.name, by decide, Tryz.func230.trans (congrArg some (by kernel_rfl))⟩
  f25 := ⟨Tryz.f231.name, by decide, Tryz.func231.trans (congrArg some (by kernel_rfl))⟩
  f26 := ⟨Tryz.f232.name, by decide, Tryz.func232.trans (congrArg some (by kernel_rfl))⟩
  f27 := ⟨Tryz.f233.name, by decide, Tryz.func233.trans (congrArg some (by kernel_rfl))⟩
  f28 := Tryz.func133.trans (congrArg some (by kernel_rfl))
  f29 := Tryz.func134.trans (congrArg some (by kernel_rfl))
  f46 := ⟨Tryz.f237.name, by decide, Tryz.func237.trans (congrArg some (by kernel_rfl))⟩
  f47 := Tryz.func150.trans (congrArg some (by kernel_rfl))
  f48 := Tryz.func151.trans (congrArg some (by kernel_rfl))
  f49 := ⟨Tryz.f238.name, by decide, Tryz.func238.trans (congrArg some (by kernel_rfl))⟩
  f50 := ⟨Tryz.f239.name, by decide, Tryz.func239.trans (congrArg some (by kernel_rfl))⟩
  f57 := ⟨Tryz.f249.name, by decide, Tryz.func249.trans (congrArg some (by kernel_rfl))⟩
  t0 := Tryz.underlying0
  a0 := Tryz.isAgg0
  z0 := Tryz.sizeOf0
  v0 := Tryz.zeroValue0
  t3 := Tryz.underlying3
  a3 := Tryz.isAgg3
  z3 := Tryz.sizeOf3
  v3 := Tryz.zeroValue3
  t4 := Tryz.underlying4
  a4 := Tryz.isAgg4
  z4 := Tryz.sizeOf4
  v4 := Tryz.zeroValue4
  t5 := Tryz.underlying5
  a5 := Tryz.isAgg5
  z5 := Tryz.sizeOf5
  v5 := Tryz.zeroValue5
  t9 := Tryz.underlying9
  a9 := Tryz.isAgg9
  z9 := Tryz.sizeOf9
  v9 := Tryz.zeroValue9
  t22 := Tryz.underlying93
  a22 := Tryz.isAgg93
  z22 := Tryz.sizeOf93
  v22 := Tryz.zeroValue93
  t25 := Tryz.underlying281
  a25 := Tryz.isAgg281
  z25 := Tryz.sizeOf281
  v25 := Tryz.zeroValue281
  t39 := Tryz.underlying157
  a39 := Tryz.isAgg157
  z39 := Tryz.sizeOf157
  v39 := Tryz.zeroValue157
  t45 := Tryz.underlying190
  a45 := Tryz.isAgg190
  z45 := Tryz.sizeOf190
  v45 := Tryz.zeroValue190
  t46 := Tryz.underlying191
  a46 := Tryz.isAgg191
  z46 := Tryz.sizeOf191
  v46 := Tryz.zeroValue191
  t50 := Tryz.underlying134
  a50 := Tryz.isAgg134
  z50 := Tryz.sizeOf134
  v50 := Tryz.zeroValue134
  t53 := Tryz.underlying197
  a53 := Tryz.isAgg197
  z53 := Tryz.sizeOf197
  v53 := Tryz.zeroValue197
  t55 := Tryz.underlying199
  a55 := Tryz.isAgg199
  z55 := Tryz.sizeOf199
  v55 := Tryz.zeroValue199
  t66 := Tryz.underlying226
  a66 := Tryz.isAgg226
  z66 := Tryz.sizeOf226
  v66 := Tryz.zeroValue226
  t70 := Tryz.underlying230
  a70 := Tryz.isAgg230
  z70 := Tryz.sizeOf230
  v70 := Tryz.zeroValue230
  t76 := Tryz.underlying253
  a76 := Tryz.isAgg253
  z76 := Tryz.sizeOf253
  v76 := Tryz.zeroValue253
  t77 := Tryz.underlying254
  a77 := Tryz.isAgg254
  z77 := Tryz.sizeOf254
  v77 := Tryz.zeroValue254 }
end Go.Proofs


namespace Go.Vir
open Go Go.RowKit Go.Proofs Go.Extern.Stop Go.Stop Go.Extern

set_option maxHeartbeats 4000000 in
theorem span_told_nil (w : World) : Calls Tryz.prog 178 #[.nilIface] w fun ev w' => ev = .returned (.tuple #[.int .i64 0, .int .i64 0]) ∧ Below w.heap.size w w' := by
  go_enter Tryz.func178, Tryz.ntmps178
  go_wp2_with (go_at_call 51; refine (class_as_nil _ _).mono ?_; rintro ev w1 ⟨rfl, rfl⟩)
  go_ret2
  exact ⟨rfl, by go_grown⟩
end Go.Vir


namespace Go.Vir
open Go Go.RowKit Go.Proofs Go.Shelf Go.Sort
attribute [local go_sem] Oper.semAt_some

theorem sub_small {a b : Int} (h1 : 0 ≤ a) (h2 : a ≤ 1114111) (h3 : 0 ≤ b) (h4 : b ≤ 1114111) : IntKind.i64.wrap (a - b) = a - b := by
  simp [IntKind.wrap, IntKind.bits, IntKind.signed]; omega
set_option maxHeartbeats 1000000 in
theorem sorted3 (x y : RgO) (W : World) : Calls Tryz.prog 203 #[.agg #[.int .i64 x.1.f, .int .i64 x.1.t, .int .i64 x.1.v], .agg #[.int .i64 y.1.f, .int .i64 y.1.t, .int .i64 y.1.v]] W fun e w' => e = .returned (.int .i64 (cmpO x y)) ∧ ∃ q os', w' = grow (W.drewN q) os' := by
  obtain ⟨⟨f, t, v⟩, hx⟩ := x
  obtain ⟨⟨f2, t2, v2⟩, hy⟩ := y
  have h1 := oneR_iff.1 hx
  have h2 := oneR_iff.1 hy
  simp only at h1 h2
  unfold cmpO
  simp only
  have hb1 : ¬ (f - f2 < -9223372036854775808) := by omega
  have hb2 : ¬ (9223372036854775807 < f - f2) := by omega
  have hw := sub_small (a := f) (b := f2) (by omega) (by omega) (by omega) (by omega)
  go_enter Tryz.func203, Tryz.ntmps203
  go_wp2_with fail
  go_ret
  exact ⟨rfl, 0, _, by rw [alloc_eq_grow, alloc_eq_grow, grow_grow]; rfl⟩

theorem insertion_none (p : Option Addr) (cap : Nat) (fv : Value) (w : World) :
    Calls Tryz.prog 226 #[.slice p 0 cap, .int .i64 0, .int .i64 0, fv] w fun e w' => e = .returned (.tuple #[]) ∧ w' = w := by
  go_enter Tryz.func226, Tryz.ntmps226
  go_wp2
  refine wp_loop_rounds 1 ?_
  rw [rounds_succ]
  go_wp2
  go_end0
  exact ⟨rfl, rfl⟩
set_option maxHeartbeats 2000000 in
theorem pdq_none (p : Option Addr) (cap : Nat) (lim : Int) (fv : Value) (w : World) :
    Calls Tryz.prog 217 #[.slice p 0 cap, .int .i64 0, .int .i64 0, .int .i64 lim, fv] w fun e w' => e = .returned (.tuple #[]) ∧ w' = w := by
  have hi := fun W => insertion_none p cap fv W
  go_enter Tryz.func217, Tryz.ntmps217
  go_wp2
  refine wp_loop_rounds 1 ?_
  rw [rounds_succ]
  go_wp2_with fail
  refine (hi _).mono ?_
  rintro e w' ⟨rfl, rfl⟩
  go_wp2_with fail
  (try simp only [Exit.inBlock, Exit.then]); refine bodyPost_ret (results_none rfl _ _ _) rfl ?_
  exact ⟨rfl, rfl⟩
set_option maxHeartbeats 2000000 in
theorem sort_none (p : Option Addr) (cap : Nat) (fv : Value) (w : World) :
    Calls Tryz.prog 202 #[.slice p 0 cap, fv] w fun e w' => e = .returned (.tuple #[]) ∧ w' = w := by
  have hp := fun lim W => pdq_none p cap lim fv W
  have hl : ∀ W, Calls Tryz.prog 107 #[.int .u64 0] W fun e w' => e = .returned (.int .i64 (Lib.bitLen 0 : Nat)) ∧ w' = W := fun W => Tryz.bits_Len 0 W (by omega) (by omega)
  go_enter Tryz.func202, Tryz.ntmps202
  go_wp2_with fail
  refine (hl _).mono ?_
  rintro e w' ⟨rfl, rfl⟩
  go_wp2_with fail
  refine (hp _ _).mono ?_
  rintro e w' ⟨rfl, rfl⟩
  go_wp2_with fail
  go_end0
  exact ⟨rfl, rfl⟩

theorem sort_call (blk cap : Nat) (d : Array RgO) (w : World) (hH : HoldsK encO 3 w blk 0 d) (hblk : blk < w.heap.size) (hsz : d.size ≤ 1000000) :
    Calls Tryz.prog 202 #[.slice (some ⟨blk, 0, none⟩) d.size cap, .func (.func 203) #[] #[]] w fun e w' => e = .returned (.tuple #[]) ∧ ∃ d' n os, PermIn 0 d.size d d' ∧ SortedIn (ltOf cmpO) 0 d.size d' ∧ w' = sortWorldK encO 3 w blk 0 n d' os := by
  have eg : ∀ args w, (callFunc 203 args).run Tryz.prog w = .ok (.enter 203 args) w := enters_of Tryz.func203 (by kernel_rfl) rfl
  have hcon := AnyQ.slices_SortFunc Tryz.sortRg 3 Tryz.isAgg139 Tryz.sizeOf139 encO encO_len encO_one cmpO swoO 203 #[] blk 0 cap d w eg (fun _ _ _ _ x y => sorted3 x y _) hH hblk (by omega)
  exact hcon

set_option maxRecDepth 100000 in
set_option maxHeartbeats 2000000 in
theorem span_sorted (A : Option Addr) (n c : Nat) (l : List Rg) (w : World) (hx : Rgs w w.heap.size A n l) (hnc : n ≤ c) (hn : n ≤ 600) (h1 : ∀ x ∈ l, oneR x = true) (ha : apartR l) :
    Calls Tryz.prog 177 #[.slice A n c] w fun e w' => ∃ A' n' c', e = .returned (.tuple #[.slice A' n' c', .nilIface]) ∧ n' ≤ c' ∧ (A' = none → n' = 0 ∧ c' = 0) ∧ Rgs w' w'.heap.size A' n' (sortR l) ∧ Below w.heap.size w w' := by
  have hlen := hx.len
  have hba : Below w.heap.size w (w.alloc (.cells #[.slice A n c] 93)) := by go_grown
  have hcl := clone_rgs A n c l (w.alloc (.cells #[.slice A n c] 93)) ((hx.below hba).more hba.size) (by omega)
  have hf1 := fun (W : World) (hW : Below w.heap.size w W) => span_first A n c l W (enters_of Tryz.func198 (by kernel_rfl) rfl) ((hx.below hW).more hW.size) (by omega) (lb := #[]) (fun i hi W' _ => sorted1 i l[i] W' (h1 _ (List.getElem_mem hi)))
  have hf2 := fun (W : World) (hW : Below w.heap.size w W) (hbox : W.cell? ⟨w.heap.size, 0, none⟩ = some (.slice A n c)) (hbl : w.heap.size < W.heap.size) => span_first A n c l W (enters_of Tryz.func199 (by kernel_rfl) rfl) ((hx.below hW).more hW.size) (by omega) (lb := #[.pointer (some ⟨w.heap.size, 0, none⟩)])
    (fun i hi W' hW' => sorted2 i l[i] A n c l w.heap.size W' ((hx.below (hW.trans (hW'.mono hW.size))).more (hW.trans (hW'.mono hW.size)).size) (by omega) hnc (by omega) ((cellOf hW' hbl).trans hbox) (Nat.lt_of_lt_of_le hbl hW'.size) (by
      rw [List.any_eq_false]
      intro y hy
      obtain ⟨j, hj, rfl⟩ := List.getElem_of_mem hy
      rw [List.length_take] at hj
      rw [List.getElem_take]
      have := List.pairwise_iff_getElem.1 ha j i (by omega) hi (by omega)
      simp [this]))
  have Hcl := Lib.hid hcl
  have Hf1 := Lib.hid hf1
  have Hf2 := Lib.hid hf2
  have Ha := Lib.hid ha
  have H1 := Lib.hid h1
  have hd : decide ((600 : Int) < (n : Int)) = false := decide_eq_false (by omega)
  have Hlen := Lib.hid hlen
  clear hcl hf1 hf2 hx ha h1 hlen
  go_enter Tryz.func177, Tryz.ntmps177
  go_wp2_with fail
  refine wp_scope_once ?_
  generalize hQl : landed _ _ _ = Ql
  go_wp2_with fail
  refine Hcl.out.mono ?_
  rintro e w1 ⟨v, rfl, hown, hb1⟩
  have hbw1 : Below w.heap.size w w1 := hba.trans (hb1.mono hba.size)
  have hbox1 : w1.cell? ⟨w.heap.size, 0, none⟩ = some (.slice A n c) := (cellOf hb1 (by simp)).trans (cell_blk (heap_new rfl) 0)
  have hlt1 : w.heap.size < w1.heap.size := by have := hb1.size; simp at this; omega
  have Hown := Lib.hid hown
  clear hown
  go_wp2_with fail
  refine (Hf1.out _ hbw1).mono ?_
  rintro e w2 ⟨rfl, hb2⟩
  have hbw2 := hbw1.trans (hb2.mono hbw1.size)
  have hbox2 := (cellOf hb2 hlt1).trans hbox1
  have hlt2 : w.heap.size < w2.heap.size := by have := hb2.size; omega
  go_wp2_with fail
  refine (Hf2.out _ hbw2 hbox2 hlt2).mono ?_
  rintro e w3 ⟨rfl, hb3⟩
  have hbw3 := hbw2.trans (hb3.mono hbw2.size)
  have hown3 := ownsRow_below (ownsRow_below Hown.out hb2) hb3
  rcases hown3.2 with ⟨rfl, h0⟩ | ⟨g, cap, cur, rfl, hg, hgb, hcap, hcm, hcs, ht⟩
  · have hl0 : l = [] := List.eq_nil_of_length_eq_zero h0
    subst hl0
    clear hown3
    go_wp2_with fail
    refine (sort_none _ _ _ _).mono ?_
    rintro e w4 ⟨rfl, rfl⟩
    go_wp2_with fail
    subst hQl
    rw [landed_ret]
    go_ret2
    exact ⟨none, 0, 0, rfl, Nat.le_refl _, fun _ => ⟨rfl, rfl⟩, Rgs.nil _ _ _, hbw3⟩
  · have hd2 : (upO l H1.out).toArray.size = l.length := by simp [upO_len]
    have hcall := sort_call g cap (upO l H1.out).toArray w3 (holds_rgs (fun k => frozen_blk hgb k) (fun j hj => by
      have hjl : j < l.length := by rw [← hd2]; exact hj
      obtain ⟨p1, p2, p3⟩ := rgVs_get l j hjl
      rw [← ht, List.getElem?_take] at p1 p2 p3
      have hval : ((upO l H1.out).toArray[j]).1 = l[j] := by simp [upO]
      rw [hval, cell_blk hgb, cell_blk hgb, cell_blk hgb]
      rw [if_pos (by omega)] at p1 p2 p3
      exact ⟨by simpa using p1, by simpa using p2, by simpa using p3⟩)) (Array.getElem?_eq_some_iff.1 hgb).1 (by have := Hlen.out; omega)
    rw [hd2] at hcall
    have Hcall := Lib.hid hcall
    clear hcall hown3 hd2
    go_wp2_with fail
    refine Hcall.out.mono ?_
    rintro e w4 ⟨rfl, hx5⟩
    obtain ⟨d', m, os, hp, hs, hw⟩ := hx5
    have hsz : d'.size = l.length := by rw [hp.1]; simp [upO_len]
    have hr := sorted_rgs (n := m) (os := os) d' hgb (by rw [hsz, hcs]; omega)
    rw [sorted_is H1.out Ha.out hp hs, hsz] at hr
    have hg4 : Below w.heap.size w (sortWorldK encO 3 w3 g 0 m d' os) := hbw3.grown (sorted_grown (n := m) (os := os) d') hbw3.size (fun k hk => by cases hk; have := hb1.size; simp at this hg; omega)
    rw [← hw] at hr hg4
    have Hr := Lib.hid hr
    have Hg4 := Lib.hid hg4
    clear hr hg4 hp hs hw
    go_wp2_with fail
    subst hQl
    rw [landed_ret]
    go_ret2
    exact ⟨_, _, _, rfl, hcap, (fun e => by cases e), Hr.out, Hg4.out⟩
theorem span_Sort (A : Option Addr) (n c : Nat) (l : List Rg) (w : World) (hx : Rgs w w.heap.size A n l) (hnc : n ≤ c) (hn : n ≤ 600) (h1 : ∀ x ∈ l, oneR x = true) (ha : apartR l) :
    Calls Tryz.prog 157 #[.slice A n c] w fun e w' => ∃ A' n' c', e = .returned (.tuple #[.slice A' n' c', .int .i64 0, .int .i64 0]) ∧ n' ≤ c' ∧ (A' = none → n' = 0 ∧ c' = 0) ∧ Rgs w' w'.heap.size A' n' (sortR l) ∧ Below w.heap.size w w' := by
  have hs := span_sorted A n c l w hx hnc hn h1 ha
  have Hs := Lib.hid hs
  clear hs hx h1 ha
  go_enter Tryz.func157, Tryz.ntmps157
  go_wp2_with fail
  refine Hs.out.mono ?_
  rintro e w1 ⟨A', n', c', rfl, hc1, hno, hr, hb1⟩
  have Hr := Lib.hid hr
  clear hr
  go_wp2_with fail
  refine (span_told_nil _).mono ?_
  rintro e w2 ⟨rfl, hb2⟩
  go_wp2_with fail
  go_ret3
  exact ⟨A', n', c', rfl, hc1, hno, (Hr.out.below hb2).more hb2.size, hb1.trans (hb2.mono hb1.size)⟩
end Go.Vir


namespace Go.Proofs
open Go.Shelf
def Tryz.growRg_ren : Go.Shelf.Ren := ⟨fun | 4 => 218 | n => n, fun | 22 => 93 | 25 => 139 | 3 => 3 | 4 => 4 | 9 => 9 | 20 => 20 | 0 => 0 | n => n, fun | n => n⟩
theorem Tryz.growRg : Go.Proofs.Lays8.n4 Tryz.prog Tryz.growRg_ren := {
  mixed := by kernel_rfl
  f4 := ⟨Tryz.f218.name, by decide, Tryz.func218.trans (congrArg some (by kernel_rfl))⟩
  t0 := Tryz.underlying0
  a0 := Tryz.isAgg0
  z0 := Tryz.sizeOf0
  v0 := Tryz.zeroValue0
  t3 := Tryz.underlying3
  a3 := Tryz.isAgg3
  z3 := Tryz.sizeOf3
  v3 := Tryz.zeroValue3
  t4 := Tryz.underlying4
  a4 := Tryz.isAgg4
  z4 := Tryz.sizeOf4
  v4 := Tryz.zeroValue4
  t9 := Tryz.underlying9
  a9 := Tryz.isAgg9
  z9 := Tryz.sizeOf9
  v9 := Tryz.zeroValue9
  t20 := Tryz.underlying20
  a20 := Tryz.isAgg20
  z20 := Tryz.sizeOf20
  v20 := Tryz.zeroValue20
  t22 := Tryz.underlying93
  a22 := Tryz.isAgg93
  z22 := Tryz.sizeOf93
  v22 := Tryz.zeroValue93 }
end Go.Proofs


namespace Go.Vir
open Go Go.RowKit Go.Proofs Go.Shelf

theorem wpList_append_any {P : Program} {w : World} {ops : Array Oper} {rest : List Oper} {o : Oper} {a : Act} {Q : Exit → Act → World → Prop} (hgd : o.guard = none) (s x : Operand) (t : TypeId)
    (ho : o.op = .call { callee := .builtin .append, args := #[s, x], argTypes := #[t, t] })
    (base : Nat) (e : TypeId) (i : TypeInfo) (z : Value) (size bytes : Nat) (ht : P.underlying t = some (.slice e)) (hi : P.info? e = some i) (hz : i.zero = some z)
    (hsize : i.size = size) (hby : i.bytes = bytes) (hzs : z.cells.size = size) (hsz : 0 < size)
    (v : Value) (n : Nat) (xs : List Value) (hs : a.eval s = v) (hown : w.ownsRow base e size v n xs)
    (Ax : Option Addr) (m c : Nat) (news : List Value) (hx : a.eval x = .slice Ax m c) (hnone : Ax = none → m = 0 ∧ c = 0) (hl : news.length = m * size) (hnews : ∀ ad, Ax = some ad → ∀ j u, news[j]? = some u → w.cell? (ad.add j) = some u) (h1 : ∀ u ∈ news, u.oneCell' = true)
    (h63 : n + m ≤ maxLen) (hbytes : (n + m) * bytes ≤ 140737488355328) (hbase : base ≤ w.heap.size)
    (h : ∀ v' w', w'.ownsRow base e size v' (n + m) (xs ++ news) → w.grownBy w' v.ownBlock → wpList P ops Q rest (a.put o.dst v') w') :
    wpList P ops Q (o :: rest) a w := by
  refine wpList_plain hgd fun K hK => ?_
  cases Ax with
  | some ad =>
    obtain ⟨v', w', hr, h2, h3, _, _⟩ := run_append_own_at (P := P) w base t o.type e i z size bytes ht hi hz hsize hby hzs hsz v n xs hown ad m c news hl (hnews ad rfl) h1 h63 hbytes hbase
    unfold Oper.wp execOp
    simp only [ho, resolve, invoke, builtin, Sem.run_bind, Sem.run_pure, Result.andThen_ok, List.map_toArray, List.map_cons, List.map_nil, hs, hx, hr]
    exact hK _ _ (h v' w' h2 h3)
  | none =>
    obtain ⟨rfl, rfl⟩ := hnone rfl
    obtain rfl : news = [] := List.eq_nil_of_length_eq_zero (by simpa using hl)
    have hrun := run_append_owned_none (P := P) (w := w) base t o.type e i size ht hi v n xs hown
    unfold Oper.wp
    simp [execOp, ho, resolve, invoke, builtin, hs, hx, hrun, Result.andThen]
    exact hK _ _ (h v w (by simpa using hown) ⟨rfl, rfl, rfl, Nat.le_refl _, fun _ _ _ => rfl⟩)

end Go.Vir


namespace Go.Vir
open Go Go.RowKit Go.Proofs Go.Shelf
attribute [local go_sem] Oper.semAt_some

theorem grow_rg (n : Nat) (w : World) (hn : n ≤ 1000) :
    Calls Tryz.prog 218 #[.slice none 0 0, .int .i64 (n : Int)] w fun e w' => ∃ v, e = .returned v ∧ w'.ownsRow w.heap.size 139 3 v 0 [] ∧ Below w.heap.size w w' := by
  obtain ⟨i0, hi0, hz0, hz1, hz2⟩ := info_parts rg_info
  rcases Nat.eq_zero_or_pos n with rfl | hpos
  · have h := Any8.slices_Grow_room Tryz.growRg none 0 0 0 w (Nat.le_refl _) (by omega) (by omega) (by omega)
    refine Calls.mono (P := Tryz.prog) h ?_
    rintro e w' ⟨rfl, rfl⟩
    exact ⟨_, rfl, World.ownsRow_nil _ _ _ _, Below.refl _ _⟩
  · have h := Any8.slices_Grow_grow Tryz.growRg i0 (.agg #[.int .i64 0, .int .i64 0, .int .i64 0]) hi0 hz0 (by omega) none 0 0 n [] w (Nat.le_refl _) (by omega) (by rw [hz2]; omega) (by omega) (by simp) (fun _ => rfl) (fun a e => by cases e)
    refine Calls.mono (P := Tryz.prog) h ?_
    rintro e w' ⟨rfl, rfl⟩
    have hge := grownCap_ge w (0 + n) 0 (Tryz.growRg_ren.t 25)
    have hle := grownCap_le_maxLen w (0 + n) 0 (Tryz.growRg_ren.t 25) (by unfold maxLen; omega)
    refine ⟨_, rfl, ⟨rfl, .inr ⟨w.heap.size, _, _, rfl, Nat.le_refl _, heap_new rfl, Nat.zero_le _, hle, ?_, rfl⟩⟩, ((Below.refl _ w).drew).alloc (Nat.le_refl _) _⟩
    generalize grownCap w (0 + n) 0 (Tryz.growRg_ren.t 25) = q at hge hle ⊢
    simp only [Array.size_append, List.size_toArray, List.length_nil, size_zeroCells, Value.cells]
    simp
    omega

set_option maxRecDepth 100000 in
set_option maxHeartbeats 4000000 in
theorem concat_rg (bb : Nat) (A : Option Addr) (n c : Nat) (l : List Rg) (w : World) (hx : Rgs w w.heap.size A n l) (hA : A = none → n = 0 ∧ c = 0) (hn : n ≤ 600)
    (hb : w.heap[bb]? = some (.cells #[.slice A n c, .slice none 0 0] 93 (0, 0))) :
    Calls Tryz.prog 204 #[.slice (some ⟨bb, 0, none⟩) 2 2] w fun e w' => ∃ A' n' c', e = .returned (.slice A' n' c') ∧ Rgs w' w'.heap.size A' n' l ∧ Below w.heap.size w w' := by
  obtain ⟨i0, hi0, hz0, hz1, hz2⟩ := info_parts rg_info
  have hbl : bb < w.heap.size := (Array.getElem?_eq_some_iff.1 hb).1
  have u0 : w.cell? ⟨bb, 0, none⟩ = some (.slice A n c) := cell_blk hb 0
  have u1 : w.cell? ⟨bb, 0 + 1, none⟩ = some (.slice none 0 0) := cell_blk hb 1
  have hg := grow_rg n w (by omega)
  have hlen := hx.len
  have hvl := rgVs_len l
  rw [hlen] at hvl
  have Hg := Lib.hid hg
  clear hg
  go_enter Tryz.func204, Tryz.ntmps204
  go_wp2_with fail
  refine wp_loop_rounds 3 ?_
  rw [rounds_succ]
  go_wp2_with fail
  rw [rounds_succ]
  go_wp2_with fail
  rw [rounds_succ]
  go_wp2_with fail
  refine Hg.out.mono ?_
  rintro e w1 ⟨v, rfl, hown, hb1⟩
  have v0 := (cellOf hb1 hbl).trans u0
  have v1 := (cellOf hb1 hbl).trans u1
  have hcl := (hx.below hb1).cells
  have hone := rgVs_one l
  generalize hvs : rgVs l = vs at *
  have Hvs := Lib.hid hvs
  have Hcl := Lib.hid hcl
  have Hone := Lib.hid hone
  have Hown := Lib.hid hown
  have Hlen := Lib.hid hlen
  clear hvs hcl hone hown hx hlen u0 u1
  go_wp2_with fail
  refine wp_loop_rounds 3 ?_
  rw [rounds_succ]
  go_wp2_with (at_builtin; refine wpList_append_any rfl _ _ 93 rfl w.heap.size 139 i0 (.agg #[.int .i64 0, .int .i64 0, .int .i64 0]) 3 24 Tryz.underlying93 hi0 hz0 hz1 hz2 rfl (by decide) v 0 [] rfl Hown.out A n c vs rfl hA hvl Hcl.out Hone.out (by simp only [maxLen]; omega) (by omega) hb1.size ?_; intro v2 w2 hown2 hgrow2)
  have hb2 : Below w.heap.size w w2 := hb1.grown hgrow2 hb1.size (fun k hk => (row_data Hown.out k hk).1)
  have x1 : w2.cell? ⟨bb, 0 + 1, none⟩ = some (.slice none 0 0) := (World.cell?_of_block (a := ⟨bb, 0 + 1, none⟩) (hgrow2.block bb (Nat.lt_of_lt_of_le hbl hb1.size) (fun e => by have := (row_data Hown.out bb e.symm).1; omega))).trans v1
  have Hown2 := Lib.hid hown2
  clear hown2 hgrow2 v0 v1
  go_wp2_with fail
  rw [rounds_succ]
  go_wp2_with (at_builtin; refine wpList_append_any rfl _ _ 93 rfl w.heap.size 139 i0 (.agg #[.int .i64 0, .int .i64 0, .int .i64 0]) 3 24 Tryz.underlying93 hi0 hz0 hz1 hz2 rfl (by decide) v2 (0 + n) ([] ++ vs) rfl Hown2.out none 0 0 [] rfl (fun _ => ⟨rfl, rfl⟩) rfl (fun ad e => by cases e) (by simp) (by simp only [maxLen]; omega) (by omega) hb2.size ?_; intro v3 w3 hown3 hgrow3)
  have hb3 : Below w.heap.size w w3 := hb2.grown hgrow3 hb2.size (fun k hk => (row_data Hown2.out k hk).1)
  have hown4 : w3.ownsRow w.heap.size 139 3 v3 l.length (rgVs l) := by
    rw [Hvs.out, Hlen.out]
    simpa using hown3
  obtain ⟨A', n', c', rfl, _, _, hr⟩ := rgs_own hown4
  have Hr := Lib.hid hr
  clear hown3 hown4 hgrow3 hr
  go_wp2_with fail
  rw [rounds_succ]
  go_wp2_with fail
  go_ret
  exact ⟨A', n', c', rfl, Hr.out, hb3⟩
end Go.Vir


namespace Go.Vir
open Go Go.RowKit Go.Proofs Go.Shelf Go.Maps
attribute [local go_sem] Oper.semAt_some

theorem keyed_int : Keyed Tryz.prog 3 := int_keyed Tryz.underlying3
theorem wf_int {x : Int} (h1 : -9223372036854775808 ≤ x) (h2 : x ≤ 9223372036854775807) : (Lit.int .i64 x).wf = true := by
  simp [Lit.wf, IntKind.min, IntKind.max, IntKind.bits, IntKind.signed]
  omega
theorem key_int {x : Int} (h : (Lit.int .i64 x).wf = true) : keyOf Tryz.prog 3 (.int .i64 x) = some (.int .i64 x) := by
  simp [keyOf, Tryz.underlying3, mapKey, h]
theorem isKey_int (x : Int) : WideAt.IsKeyLit (Lit.int .i64 x) := trivial
def hasI (D : DataW Unit) (x : Int) : Bool := Maps.has D (.int .i64 x)
theorem hasI_put {D : DataW Unit} (hD : IsMap D) (x : Int) (d : DataW Unit) (y : Int) : hasI (D.put (.int .i64 x) d) y = (decide (y = x) || hasI D y) := by
  unfold hasI
  by_cases h : y = x
  · subst h; rw [has_put_same hD (isKey_int _)]; simp
  · rw [has_put_other (by intro e; cases e; exact h rfl)]; simp [h]
theorem hasI_del {D : DataW Unit} (x y : Int) : hasI (D.del (.int .i64 x)) y = (!decide (y = x) && hasI D y) := by
  unfold hasI
  by_cases h : y = x
  · subst h; rw [has_del_same]; simp
  · rw [has_del_other (by intro e; cases e; exact h rfl)]; simp [h]

theorem wpList_insert_own {H : Type} {P : Program} (w : World) {ops : Array Oper} {rest : List Oper} {o : Oper} {a : Act} {Q : Exit → Act → World → Prop}
    (hg : o.guard = none) (m x v : Operand) (t : TypeId) (hop : o.op = Op.insert t m x v)
    (k e : TypeId) (K : Keyed P k) (ht : P.underlying t = some (.map k e)) (R : Value → Option (DataW H × List MemPlace)) (b n : Nat) (D : DataW H)
    (hm : a.eval m = .map (some b)) (hown : w.ownsMap P k R b n D) (hn : n < maxLen) (key val : Value) (kl : Lit) (hx : a.eval x = key) (hv : a.eval v = val) (hkey : keyOf P k key = some kl)
    (d : DataW H) (ps : List MemPlace) (hval : R val = some (d, ps))
    (hK : ∀ w', w'.ownsMap P k R b (n + 1) (D.put kl d) → w.grownBy w' (some b) → wpList P ops Q rest (a.put o.dst undef) w') :
    wpList P ops Q (o :: rest) a w := by
  refine wpList_plain hg fun K' hK' => ?_
  obtain ⟨w', hrun, r1, r2⟩ := hown.update K ht hn hkey hval
  unfold Oper.wp
  simp [execOp, hop, hm, hx, hv, hrun, Result.andThen]
  exact hK' _ _ (hK w' r1 r2)

def CollI (D0 : DataW Unit) (left : Lit → Bool) (ss : List Int) : Prop := ss.Nodup ∧ ∀ x, x ∈ ss ↔ (hasI D0 x = true ∧ left (.int .i64 x) = false)
theorem CollI.start (D0 : DataW Unit) : CollI D0 (Maps.has D0) [] := ⟨List.nodup_nil, fun x => by unfold hasI; cases Maps.has D0 (.int .i64 x) <;> simp⟩
theorem CollI.step {D0 : DataW Unit} {left : Lit → Bool} {ss : List Int} (h : CollI D0 left ss) {x : Int} {y : DataW Unit} (hlk : left (.int .i64 x) = true) (hat : ∀ zd, D0.atKey (.int .i64 x) zd = y) : CollI D0 (fun z => left z && !z.sameKey (.int .i64 x)) (ss ++ [x]) := by
  have hhas : hasI D0 x = true := has_true_of_atKey hat
  have hnew : x ∉ ss := fun hx => by have := ((h.2 x).1 hx).2; rw [hlk] at this; cases this
  refine ⟨List.nodup_append.2 ⟨h.1, by simp, fun a ha b hb => by simp at hb; subst hb; exact fun e => hnew (e ▸ ha)⟩, fun y => ?_⟩
  by_cases hy : y = x
  · subst hy; simp [hhas, Lit.sameKey]
  · simp [h.2 y, hy, Lit.sameKey]

theorem sorted_keys {ss : List Int} (h : ss.Nodup) : (ss.mergeSort fun x y => decide (x ≤ y)).Pairwise (· < ·) ∧ ∀ y, y ∈ (ss.mergeSort fun x y => decide (x ≤ y)) ↔ y ∈ ss := by
  have hp := List.mergeSort_perm ss (fun x y => decide (x ≤ y))
  have hs := List.pairwise_mergeSort (le := fun x y : Int => decide (x ≤ y)) (fun a b c h1 h2 => by simp at *; omega) (fun a b => by simp; omega) ss
  have hn : (ss.mergeSort fun x y => decide (x ≤ y)).Nodup := hp.nodup_iff.2 h
  refine ⟨?_, fun y => hp.mem_iff⟩
  have := hs.and hn
  exact this.imp (fun {a b} hab => by
    have h1 := hab.1
    have h2 := hab.2
    simp at h1
    omega)

theorem ints_sorted {w : World} {g n : Nat} {os : Array Obj} {cur : Array Value} {e : TypeId} (zs : List Int) (hb : w.heap[g]? = some (.cells cur e (0, 0))) (hsz : zs.length ≤ cur.size) :
    Ints (Sort.grow (Sort.putRow (Value.int .i64) (Sort.ahead w n) g 0 zs.toArray) os) (Sort.grow (Sort.putRow (Value.int .i64) (Sort.ahead w n) g 0 zs.toArray) os).heap.size (some ⟨g, 0, none⟩) zs.length zs ∧
      w.grownBy (Sort.grow (Sort.putRow (Value.int .i64) (Sort.ahead w n) g 0 zs.toArray) os) (some g) := by
  have hg : g < w.heap.size := (Array.getElem?_eq_some_iff.1 hb).1
  have hh : (Sort.grow (Sort.putRow (Value.int .i64) (Sort.ahead w n) g 0 zs.toArray) os).heap[g]? = some (.cells (Sort.putCells (Value.int .i64) 0 zs.toArray cur) e (0, 0)) := by
    rw [Sort.heap_grow_old _ _ (by simpa using hg)]
    simp [Sort.putRow, Sort.mapBlock, Sort.ahead, Array.getElem?_modify, hb, Sort.onCells]
  refine ⟨⟨rfl, fun _ => ⟨g, 0, rfl, (Array.getElem?_eq_some_iff.1 hh).1, fun j hj => ?_⟩⟩, rfl, rfl, rfl, by simp, fun k hk hne => ?_⟩
  · rw [cell_blk hh]
    have h1 : 0 + j < cur.size := by omega
    simp only [Sort.putCells, Array.getElem?_mapIdx, Array.getElem?_eq_getElem h1, Option.map_some]
    simp [hj]
  · rw [Sort.heap_grow_old _ _ (by simpa using hk)]
    have : g ≠ k := fun e => hne (by rw [e])
    simp [Sort.putRow, Sort.mapBlock, Sort.ahead, Array.getElem?_modify, this]
theorem holds_ints {w : World} {g : Nat} {cur : Array Value} {e : TypeId} {zs : List Int} (hb : w.heap[g]? = some (.cells cur e (0, 0))) (ht : cur.toList.take zs.length = zs.map (Value.int .i64)) : Sort.Holds (Value.int .i64) w g 0 zs.toArray := by
  intro j hj
  have hj' : j < zs.length := by simpa using hj
  refine ⟨?_, by simp [World.frozen?, hb]⟩
  have h1 : (cur.toList.take zs.length)[j]? = (zs.map (Value.int .i64))[j]? := by rw [ht]
  rw [List.getElem?_take_of_lt hj'] at h1
  rw [cell_blk hb, Nat.zero_add, ← Array.getElem?_toList, h1]
  simp [hj']
end Go.Vir


namespace Go.Vir
open Go Go.RowKit Go.Proofs Go.Shelf Go.Maps
attribute [local go_sem] Oper.semAt_some

theorem wf_wrap (z : Int) : (Lit.int .i64 (wrap64 z)).wf = true := wf_int (by unfold wrap64; omega) (by unfold wrap64; omega)
def KeyR (D : DataW Unit) (l : List Rg) : Prop := ∀ y, hasI D y = true ↔ (y = 0 ∨ ∃ x ∈ l, y = x.f ∨ y = x.t + 1)
theorem KeyR.step {D : DataW Unit} {l : List Rg} (h : KeyR D l) (hD : IsMap D) (x : Rg) (d1 d2 : DataW Unit) : KeyR ((D.put (.int .i64 x.f) d1).put (.int .i64 (x.t + 1)) d2) (l ++ [x]) := fun y => by
  rw [hasI_put (hD.put _ _), hasI_put hD, Bool.or_eq_true, Bool.or_eq_true, decide_eq_true_eq, decide_eq_true_eq, h y]
  constructor
  · rintro (h | h | h | ⟨z, hz, h⟩)
    · exact .inr ⟨x, by simp, .inr h⟩
    · exact .inr ⟨x, by simp, .inl h⟩
    · exact .inl h
    · exact .inr ⟨z, by simp [hz], h⟩
  · rintro (h | ⟨z, hz, h⟩)
    · exact .inr (.inr (.inl h))
    · rcases List.mem_append.1 hz with hz | hz
      · exact .inr (.inr (.inr ⟨z, hz, h⟩))
      · simp only [List.mem_singleton] at hz
        subst hz
        rcases h with h | h
        · exact .inr (.inl h)
        · exact .inl h

def TurnsSt (w : World) (q r m : Nat) (D : DataW Unit) (wr : World) : Prop := ∃ (left : Lit → Bool) (cnt : Nat) (ss : List Int) (v : Value),
  wr.ranges Tryz.prog 3 (plainElem Tryz.prog 3) w.heap.size r m D left cnt ∧ CollI D left ss ∧ Boxed wr q 24 v ∧ wr.ownsRow w.heap.size 3 1 v ss.length (ss.map (Value.int .i64)) ∧ ss.length + cnt ≤ m ∧ Below w.heap.size w wr
theorem row_ne_map {w : World} {b n m base size : Nat} {D : DataW Unit} {e : TypeId} {v : Value} {xs : List Value} (h : w.ownsRow base e size v m xs) (hr : w.ownsMap Tryz.prog 3 (plainElem Tryz.prog 3) b n D) : some b ≠ v.ownBlock := by
  obtain ⟨_, _, hm, _⟩ := hr
  rcases h.2 with ⟨rfl, _⟩ | ⟨g, cap, cur, rfl, _, hb, _⟩
  · simp [Value.ownBlock]
  · intro e1
    obtain rfl : b = g := by simpa [Value.ownBlock] using e1
    rw [hb] at hm; cases hm

set_option maxRecDepth 100000 in
set_option maxHeartbeats 4000000 in
theorem turns_make (bb : Nat) (A : Option Addr) (n c : Nat) (l : List Rg) (w : World) (hx : Rgs w w.heap.size A n l) (hn : n ≤ 600) (h1 : ∀ x ∈ l, oneR x = true)
    (hb : w.heap[bb]? = some (.cells #[.slice none 0 0, .slice A n c] 93 (0, 0))) :
    Calls Tryz.prog 205 #[.slice (some ⟨bb, 0, none⟩) 2 2] w fun e w' => ∃ q kb nk ck ks, e = .returned (.func (.func 220) #[] #[.pointer (some ⟨q, 0, none⟩)]) ∧ w.heap.size ≤ q ∧
      w.heap.size ≤ kb ∧ w'.heap[q]? = some (.cells #[.slice (some ⟨kb, 0, none⟩) nk ck] 24 (0, 0)) ∧ Ints w' w'.heap.size (some ⟨kb, 0, none⟩) nk ks ∧ nk ≤ 2000 ∧ ks.Pairwise (· < ·) ∧ (∀ y, y ∈ ks ↔ y ≠ 1114112 ∧ (y = 0 ∨ ∃ x ∈ l, y = x.f ∨ y = x.t + 1)) ∧ Below w.heap.size w w' := by
  have hmm := @run_makeMap Tryz.prog
  have hbl : bb < w.heap.size := (Array.getElem?_eq_some_iff.1 hb).1
  have u0 : w.cell? ⟨bb, 0, none⟩ = some (.slice none 0 0) := cell_blk hb 0
  have u1 : w.cell? ⟨bb, 0 + 1, none⟩ = some (.slice A n c) := cell_blk hb 1
  have hlen := hx.len
  go_enter Tryz.func205, Tryz.ntmps205
  go_wp2_with (refine wpList_insert_own _ rfl _ _ _ 106 rfl 3 3 keyed_int Tryz.underlying106 (plainElem (H := Unit) Tryz.prog 3) w.heap.size 0 (.map []) rfl (World.ownsMap_made w Tryz.prog 3 (plainElem Tryz.prog 3)) (by decide) (.int .i64 0) (.int .i64 1) (.int .i64 0) rfl rfl (key_int (by decide)) (.lit (.int .i64 1)) [] (plainElem_int Tryz.underlying3 (by decide)) ?_; intro w1 hown1 hgrow1)
  have hb1 : Below w.heap.size w w1 := ((Below.refl _ w).alloc (Nat.le_refl _) _).grown hgrow1 (by simp) (fun k hk => by cases hk; exact Nat.le_refl _)
  have hkr : KeyR ((DataW.map []).put (.int .i64 0) (.lit (.int .i64 1))) ([] : List Rg) := fun y => by
    rw [hasI_put ⟨_, rfl⟩]
    simp [hasI, Maps.has]
  generalize (DataW.map []).put (.int .i64 0) (.lit (.int .i64 1)) = D1 at *
  have v0 := (cellOf hb1 hbl).trans u0
  have v1 := (cellOf hb1 hbl).trans u1
  have Hown1 := Lib.hid hown1
  have Hkr := Lib.hid hkr
  have Hx := Lib.hid hx
  have H1 := Lib.hid h1
  have Hlen := Lib.hid hlen
  clear hmm hown1 hgrow1 u0 u1 hkr hx h1 hlen
  refine wp_loop_rounds 3 ?_
  rw [rounds_succ]
  go_wp2_with fail
  refine wp_loop_rounds 1 ?_
  rw [rounds_succ]
  go_wp2_with fail
  rw [rounds_succ]
  go_wp2_with fail
  go_loopw [7, 20] (fun _ i wr => ∃ (k m : Nat) (D : DataW Unit), k ≤ n ∧ i = .int .i64 (k : Int) ∧ m ≤ 1 + 2 * k ∧ wr.ownsMap Tryz.prog 3 (plainElem Tryz.prog 3) w.heap.size m D ∧ KeyR D (l.take k) ∧ Below w.heap.size w wr ∧ bb < wr.heap.size) (fun _ i _ => n - (RowKit.intOf i).toNat)
  case atStart => exact ⟨0, 1, D1, Nat.zero_le _, rfl, by omega, Hown1.out, Hkr.out, hb1, Nat.lt_of_lt_of_le hbl hb1.size⟩
  case round =>
    obtain ⟨k, m, D, hk, rfl, hm, hown, hkr, hbr, hbs⟩ := hrel
    rcases Nat.lt_or_ge k n with hlt | hge
    · obtain ⟨xb, xo, rfl, hxb, hc⟩ := Hx.out.at_ (by omega)
      have hkl : k < l.length := by rw [Hlen.out]; exact hlt
      have z0 := (cellOf hbr hxb).trans (hc k hkl).1
      have z1 := (cellOf hbr hxb).trans (hc k hkl).2.1
      have z2 := (cellOf hbr hxb).trans (hc k hkl).2.2
      have hox := oneR_iff.1 (H1.out _ (List.getElem_mem hkl))
      have hstep := fun d1 d2 => hkr.step hown.isMap l[k] d1 d2
      rw [← List.take_succ_eq_append_getElem hkl] at hstep
      generalize l[k] = x at *
      obtain ⟨f, t, v⟩ := x
      simp only at z0 z1 z2 hox hstep
      have kf := key_int (x := f) (wf_int (by omega) (by omega))
      have kt := key_int (x := t + 1) (wf_int (by omega) (by omega))
      have Hown := Lib.hid hown
      have Hstep := Lib.hid hstep
      have Hox := Lib.hid hox
      clear hown hstep hc hkr hox
      have hltm := Hown.out.lt
      have hbne : ¬ wr.heap.size = w.heap.size := by omega
      have hwt : wrap64 (t + 1) = t + 1 := by have := Hox.out; unfold wrap64; omega
      have hwt2 : ¬ (9223372036854775807 < t + 1) := by have := Hox.out; omega
      have hwt3 : ¬ (t + 1 < -9223372036854775808) := by have := Hox.out; omega
      go_upto_region 9 with (first
        | (at_lookup; refine wpList_lookup_own_int _ rfl _ _ 106 rfl 3 3 .i64 keyed_int Tryz.underlying106 Tryz.underlying3 (Tryz.zeroValue3 _) w.heap.size m D rfl (Hown.out.alloc _) (.int .i64 f) (.int .i64 f) rfl kf ?_; intro c1 hat1 hwc1)
        | (at_mapUpdate; refine wpList_mapUpdate_own _ rfl _ _ _ 106 rfl 3 3 keyed_int Tryz.underlying106 (plainElem (H := Unit) Tryz.prog 3) w.heap.size m D rfl (Hown.out.alloc _) (by simp only [maxLen]; omega) (.int .i64 f) (.int .i64 (wrap64 (c1 + 1))) (.int .i64 f) rfl rfl kf (.lit (.int .i64 (wrap64 (c1 + 1)))) [] (plainElem_int Tryz.underlying3 (wf_wrap _)) ?_; intro w2 hown2 hg2))
      have hblk2 : w2.heap[wr.heap.size]? = some (.cells #[.int .i64 f, .int .i64 t, .int .i64 v] 139 (0, 0)) := (hg2.block _ (by simp) (by simp; omega)).trans (heap_new rfl)
      have y1 : w2.cell? ⟨wr.heap.size, 1, none⟩ = some (.int .i64 t) := cell_blk hblk2 1
      have hb2 : Below w.heap.size w w2 := (hbr.alloc hbr.size _).grown hg2 (by simp; have := hbr.size; omega) (fun k hk => by cases hk; exact Nat.le_refl _)
      have hs2 : wr.heap.size < w2.heap.size := (Array.getElem?_eq_some_iff.1 hblk2).1
      have Hown2 := Lib.hid hown2
      clear hown2 hg2 hblk2 hat1 hwc1
      go_upto_region 10 with (first
        | (at_lookup; refine wpList_lookup_own_int _ rfl _ _ 106 rfl 3 3 .i64 keyed_int Tryz.underlying106 Tryz.underlying3 (Tryz.zeroValue3 _) w.heap.size (m + 1) _ rfl Hown2.out (.int .i64 (t + 1)) (.int .i64 (t + 1)) rfl kt ?_; intro c2 hat2 hwc2)
        | (at_mapUpdate; refine wpList_mapUpdate_own _ rfl _ _ _ 106 rfl 3 3 keyed_int Tryz.underlying106 (plainElem (H := Unit) Tryz.prog 3) w.heap.size (m + 1) _ rfl Hown2.out (by simp only [maxLen]; omega) (.int .i64 (t + 1)) (.int .i64 (wrap64 (c2 + 1))) (.int .i64 (t + 1)) rfl rfl kt (.lit (.int .i64 (wrap64 (c2 + 1)))) [] (plainElem_int Tryz.underlying3 (wf_wrap _)) ?_; intro w3 hown3 hg3))
      have hb3 : Below w.heap.size w w3 := hb2.grown hg3 hb2.size (fun k hk => by cases hk; exact Nat.le_refl _)
      have hs3 := hg3.size
      have Hown3 := Lib.hid hown3
      have hks := Hstep.out (.lit (.int .i64 (wrap64 (c1 + 1)))) (.lit (.int .i64 (wrap64 (c2 + 1))))
      have Hks := Lib.hid hks
      clear hown3 hg3 hat2 hwc2 hks y1
      go_wp2_with fail
      go_roundw
      case rel => exact ⟨k + 1, m + 1 + 1, _, by omega, by go_num, by omega, Hown3.out, Hks.out, hb3, by omega⟩
      case measure => simp [RowKit.intOf]; omega
    · obtain rfl : k = n := by omega
      have hkl : l.take k = l := List.take_of_length_le (by rw [Hlen.out]; exact Nat.le_refl _)
      rw [hkl] at hkr
      have Hown := Lib.hid hown
      have Hkr2 := Lib.hid hkr
      clear hown hkr hkl
      go_wp2_with fail
      rw [rounds_succ]
      go_wp2_with (first
        | (at_delete; refine wpList_delete_own _ rfl _ _ 106 3 rfl 3 keyed_int Tryz.underlying106 (plainElem (H := Unit) Tryz.prog 3) w.heap.size m D rfl Hown.out (.int .i64 1114112) (.int .i64 1114112) rfl (key_int (by decide)) ?_; intro w4 hown4 hturn4)
        | (at_range; refine wpList_range_own _ rfl _ 106 rfl 3 3 keyed_int Tryz.underlying106 (plainElem (H := Unit) Tryz.prog 3) w.heap.size m _ rfl (hown4.alloc _) ?_; intro w5 hrg5 hg5 hs5))
      have hbm4 : Below w.heap.size w w4 := hbr.grown hturn4.grown hbr.size (fun k hk => by cases hk; exact Nat.le_refl _)
      have hsz5 : w5.heap.size = w4.heap.size + 2 := by rw [hs5]; simp
      have hq5 : w5.heap[w4.heap.size]? = some (.cells #[.slice none 0 0] 24 (0, 0)) := (hg5.block _ (by simp) (by simp)).trans (heap_new rfl)
      have hb5 : Below w.heap.size w w5 := (hbm4.alloc hbm4.size _).grown hg5 (by simp; have := hbm4.size; omega) (fun k hk => by cases hk)
      have hkd : ∀ y, hasI (D.del (.int .i64 1114112)) y = true ↔ y ≠ 1114112 ∧ (y = 0 ∨ ∃ x ∈ l, y = x.f ∨ y = x.t + 1) := fun y => by
        rw [hasI_del, Bool.and_eq_true, Hkr2.out y]
        simp
      generalize D.del (.int .i64 1114112) = D2 at *
      have hsz4 : (w4.alloc (.cells #[.slice none 0 0] 24)).heap.size = w4.heap.size + 1 := by simp
      have hst : TurnsSt w w4.heap.size (w4.alloc (.cells #[.slice none 0 0] 24)).heap.size m D2 w5 :=
        ⟨_, _, [], _, hrg5, CollI.start D2, hq5, World.ownsRow_nil _ _ _ _, (by simp; obtain ⟨es, _, _, _, hle, e⟩ := hrg5.owns; rw [e]; simpa [Maps.size, length_sorted] using hle), hb5⟩
      rw [hsz4] at hst
      obtain ⟨i0, hi0, hz0, hz1, hz2⟩ := info_parts int_info
      have hq4 : w.heap.size ≤ w4.heap.size := hbm4.size
      have hbmq : w.heap.size < w4.heap.size := hown4.lt
      have Hst := Lib.hid hst
      have Hkd := Lib.hid hkd
      clear hown4 hturn4 hg5 hs5 hq5 hb5 hkd hst hrg5 hbm4 hbr
      go_frame
      rw [hsz4]
      generalize w4.heap.size = q at *
      go_loopw [9] (fun _ wr => TurnsSt w q (q + 1) m D2 wr ∧ q + 2 ≤ wr.heap.size) (fun _ wr => wr.rangeLeft w.heap.size (q + 1))
      case atStart => exact ⟨Hst.out, by omega⟩
      case round =>
        obtain ⟨⟨left, cnt, ss, v, hrg, hco, hbx, hrow, hcnt, hbw⟩, hqs⟩ := hrel
        go_wp2_with (at_next; refine wpList_next_ranges_ii _ rfl _ rfl 3 3 .i64 .i64 keyed_int Tryz.underlying3 Tryz.underlying3 w.heap.size (q + 1) m D2 left cnt rfl hrg ?_ ?_)
        · intro hc0 hl0
          have hmem : ∀ y, y ∈ ss ↔ y ≠ 1114112 ∧ (y = 0 ∨ ∃ x ∈ l, y = x.f ∨ y = x.t + 1) := fun y => by
            rw [hco.2 y, hl0, Hkd.out]; simp
          have h0 : 0 < ss.length := List.length_pos_of_mem ((hmem 0).2 ⟨by decide, .inl rfl⟩)
          rcases hrow.2 with ⟨_, h⟩ | ⟨g, cap, cur, rfl, hg, hgb, hcap, hcm, hcs, ht⟩
          · omega
          · have hsort := Tryz.slices_Sort_int g 0 cap ss wr (holds_ints hgb (by simpa using ht)) (Array.getElem?_eq_some_iff.1 hgb).1 (by omega)
            have hsk := sorted_keys hco.1
            have hml : (ss.mergeSort fun x y => decide (x ≤ y)).length = ss.length := List.length_mergeSort ss
            generalize (ss.mergeSort fun x y => decide (x ≤ y)) = ks at *
            have hqg : some q ≠ (Value.slice (some ⟨g, 0, none⟩) ss.length cap).ownBlock := hbx.not_row (by decide) hrow
            have hsl : ss.length ≤ 2000 := by omega
            have Hsort := Lib.hid hsort
            have Hmem := Lib.hid hmem
            have Hsk := Lib.hid hsk
            have Hml := Lib.hid hml
            have Hbx := Lib.hid hbx
            have hbc := hbx.cell
            clear hsort hmem hsk hml hrg hco hbx hrow hcnt hl0 ht
            go_wp2_with fail
            refine Hsort.out.mono ?_
            rintro e w6 ⟨rfl, hw6⟩
            obtain ⟨nn, os, hw6⟩ := hw6
            have hi := ints_sorted (n := nn) (os := os) ks hgb (by rw [Hml.out, hcs]; omega)
            rw [← hw6] at hi
            have hbx6 : w6.heap[q]? = some (.cells #[.slice (some ⟨g, 0, none⟩) ss.length cap] 24 (0, 0)) := (hi.2.block q (by omega) hqg).trans Hbx.out
            have hb6 : Below w.heap.size w w6 := hbw.grown hi.2 hbw.size (fun k hk => by cases hk; exact hg)
            have hin := hi.1
            rw [Hml.out] at hin
            have Hin := Lib.hid hin
            have Hbx6 := Lib.hid hbx6
            clear hi hw6 hbx6 hin hbc
            go_wp2_with fail
            go_ret
            exact ⟨q, g, _, _, ks, rfl, hq4, hg, Hbx6.out, Hin.out, hsl, Hsk.out.1, fun y => by rw [Hsk.out.2 y, Hmem.out y], hb6⟩
        · intro x cc w6 cnt6 hwx hwc hlx hat hrg6 hlt6 hg6 hs6 hen
          have hbx6 : Boxed w6 q 24 v := hbx.kept hg6 (by simp)
          have hrow6 := hrow.kept hg6 (.inr (row_ne_iter hrow hrg).symm)
          have hco6 := hco.step hlx hat
          have hb6 : Below w.heap.size w w6 := hbw.grown hg6 hbw.size (fun k hk => by cases hk; omega)
          have hq6 : q + 2 ≤ w6.heap.size := by rw [hs6]; exact hqs
          have hleft := hrg.left_eq
          have c1 := hbx6.cell
          have hnm := row_ne_map hrow6 hrg6.owns
          have hni := row_ne_iter hrow6 hrg6
          have Hbx6 := Lib.hid hbx6
          have Hrow6 := Lib.hid hrow6
          have Hco6 := Lib.hid hco6
          have Hrg6 := Lib.hid hrg6
          have Hnm := Lib.hid hnm
          have Hni := Lib.hid hni
          have Hleft := Lib.hid hleft
          clear hs6 hg6 hrg hco hbx hrow hbw hbx6 hrow6 hco6 hrg6 hat hlx hwx hwc hnm hni hleft
          go_wp2_with (at_builtin; refine wpList_append_at _ rfl _ _ 24 rfl w.heap.size 3 i0 (.int .i64 0) 1 8 Tryz.underlying24 hi0 hz0 hz1 hz2 rfl (by decide) v ss.length (ss.map (Value.int .i64)) rfl (Hrow6.out.alloc _) ⟨w6.heap.size, 0, none⟩ 1 1 [.int .i64 x] rfl rfl (cell_one_new _ _ _) (by simp [Value.oneCell']) (by simp only [maxLen]; omega) (by omega) (by simp; have := hb6.size; omega) ?_; intro v' w8 hown8 hgrow8 hat8; obtain ⟨g8, cap8, rfl⟩ := ownsRow_succ hown8; have hap := Hbx6.out.appended (by decide) Hrow6.out hb6.size hq4 hown8 hgrow8; obtain ⟨a1, a2, a3, _, a5⟩ := hap; have b1 := a1.cell; have b2 := a1.frozen)
          have hrg9 := ((Hrg6.out.alloc _).kept hgrow8 Hnm.out Hni.out).kept (grownBy_setCell2 w8 q 0 (.slice (some ⟨g8, 0, none⟩) (ss.length + 1) cap8)) (by simp; omega) (by simp)
          have hs9 : q + 2 ≤ (w8.setCell ⟨q, 0, none⟩ (.slice (some ⟨g8, 0, none⟩) (ss.length + 1) cap8)).heap.size := by
            have := hgrow8.size
            simp [World.setCell] at this ⊢
            omega
          have hrow9 := a3
          have hcnt9 : (ss ++ [x]).length + cnt6 ≤ m := by simp; omega
          have hleft9 := hrg9.left_eq
          go_roundw
          case rel => exact ⟨⟨_, cnt6, ss ++ [x], _, hrg9, Hco6.out, a2, by simpa using hrow9, hcnt9, hb6.trans a5⟩, hs9⟩
          case measure => rw [hleft9, Hleft.out]; exact hlt6
end Go.Vir


namespace Go.Vir
open Go Go.RowKit Go.Proofs Go.Shelf
attribute [local go_sem] Oper.semAt_some

def lastS (ks : List Int) (i : Nat) : Int := if i + 1 < ks.length then ks.getD (i + 1) 0 - 1 else 1114111
theorem seg_len : ∀ ks : List Int, (segL ks).length = ks.length
  | [] => rfl
  | _ :: t => by rw [segL, List.length_cons, List.length_cons, seg_len t]
theorem seg_get : ∀ (ks : List Int) (i : Nat) (_ : i < ks.length), (segL ks)[i]? = some (ks.getD i 0, lastS ks i)
  | n :: [], 0, _ => rfl
  | n :: m :: t, 0, _ => by simp [segL, lastS]
  | n :: t, i + 1, h => by
    rw [segL, List.getElem?_cons_succ, seg_get t i (by simpa using h)]
    simp [lastS]

set_option maxRecDepth 100000 in
set_option maxHeartbeats 2000000 in
theorem turns_iter (B0 q kb ko nk ck : Nat) (ks : List Int) (W0 : World) (hq : q < W0.heap.size) (hkb : kb < W0.heap.size) (hn : nk ≤ 2000) (hl : ks.length = nk) (hks : ∀ y ∈ ks, 0 ≤ y ∧ y ≤ 1114111)
    (c0 : W0.heap[q]? = some (.cells #[.slice (some ⟨kb, ko, none⟩) nk ck] 24 (0, 0))) (hz : ∀ (j : Nat) (h : j < ks.length), W0.cell? ⟨kb, ko + j, none⟩ = some (.int .i64 ks[j])) :
    Iter Tryz.prog 220 #[.pointer (some ⟨q, 0, none⟩)] nk (fun i => #[.int .i64 (ks.getD i 0), .int .i64 (lastS ks i)]) (fun k => k = q ∨ k = kb) B0 W0 := by
  intro l J Jx W hW hJ hJx hY h0
  have hqW : W.heap[q]? = some (.cells #[.slice (some ⟨kb, ko, none⟩) nk ck] 24 (0, 0)) := (hW.block _ hq).trans c0
  have hkW : W.heap[kb]? = W0.heap[kb]? := hW.block _ hkb
  have e1 : W.cell? ⟨q, 0, none⟩ = some (.slice (some ⟨kb, ko, none⟩) nk ck) := cell_blk hqW 0
  have HY := Lib.hid hY
  have Hz := Lib.hid hz
  have Hl := Lib.hid hl
  have Hks := Lib.hid hks
  clear hJ hJx hY hz hl hks c0
  refine callsIn_wide.2 ?_
  go_enter Tryz.func220, Tryz.ntmps220
  go_step3
  go_wp2
  go_step3
  go_wp2_with fail
  go_loopw [3, 4, 5, 8] (fun _ _ _ v wr => ∃ k : Nat, k ≤ nk ∧ v = .int .i64 (k : Int) ∧ J k wr ∧ wr.heap[q]? = some (.cells #[.slice (some ⟨kb, ko, none⟩) nk ck] 24 (0, 0)) ∧ wr.heap[kb]? = W0.heap[kb]?) (fun _ _ _ v _ => nk - (RowKit.intOf v).toNat)
  case atStart => exact ⟨0, Nat.zero_le _, rfl, h0, hqW, hkW⟩
  case round =>
    obtain ⟨k, hk, rfl, hJk, d0, dk⟩ := hrel
    have d1 : wr.cell? ⟨q, 0, none⟩ = some (.slice (some ⟨kb, ko, none⟩) nk ck) := cell_blk d0 0
    rcases Nat.lt_or_ge k nk with hlt | hge
    · have hkl : k < ks.length := by rw [Hl.out]; exact hlt
      have z0 := (World.cell?_of_block (a := ⟨kb, ko + k, none⟩) dk).trans (Hz.out k hkl)
      have hy := HY.out k wr hlt hJk
      have hg : ks.getD k 0 = ks[k] := by simp [List.getD_eq_getElem?_getD, hkl]
      rw [hg] at hy
      have Hdk := Lib.hid dk
      by_cases hk1 : k + 1 < nk
      · have hkl1 : k + 1 < ks.length := by rw [Hl.out]; exact hk1
        have z1 := (World.cell?_of_block (a := ⟨kb, ko + (k + 1), none⟩) dk).trans (Hz.out (k + 1) hkl1)
        have hb := Hks.out _ (List.getElem_mem hkl1)
        have hls : lastS ks k = ks[k + 1] - 1 := by rw [lastS, if_pos hkl1]; simp [List.getD_eq_getElem?_getD, hkl1]
        rw [hls] at hy
        generalize ks[k] = a at z0 hy
        generalize ks[k + 1] = b at z1 hy hb
        obtain ⟨fn, tmps, assign, body, hy, hR⟩ := hy
        have hc1 : decide (k + 1 < nk) = true := decide_eq_true hk1
        have hw1 : ¬ (b - 1 < -9223372036854775808) := by omega
        have hw2 : ¬ (9223372036854775807 < b - 1) := by omega
        have hw3 : wrap64 (b - 1) = b - 1 := by unfold wrap64; omega
        clear hg hls dk hb
        go_upto_region 6 with fail
        refine (wpIn_wide (n := 0)).1 ?_
        gi_wp2_with fail
        refine ⟨rfl, hR.mono ?_⟩
        rintro e W' (⟨rfl, hJ', hk'⟩ | ⟨rfl, hJx'⟩)
        · have f0 := (hk'.own q (.inl rfl)).trans d0
          have f1 := (hk'.own kb (.inr rfl)).trans Hdk.out
          clear hk' hR hy d0 d1 z0 z1
          gi_wp2
          go_wp2
          go_roundw
          case rel => exact ⟨k + 1, by omega, by go_num, hJ', f0, f1⟩
          case measure => simp [RowKit.intOf]; omega
        · clear hR hy d0 d1 z0 z1
          gi_wp2
          go_wp2
          simp only [Exit.noGoto]
          go_end0
          exact ⟨⟨_, rfl⟩, .inr ⟨_, hlt, hJx'⟩⟩
      · have hls : lastS ks k = 1114111 := by rw [lastS, if_neg (by rw [Hl.out]; exact hk1)]
        rw [hls] at hy
        generalize ks[k] = a at z0 hy
        obtain ⟨fn, tmps, assign, body, hy, hR⟩ := hy
        have hc1 : decide (k + 1 < nk) = false := decide_eq_false hk1
        clear hg hls dk
        go_upto_region 6 with fail
        refine (wpIn_wide (n := 0)).1 ?_
        gi_wp2_with fail
        refine ⟨rfl, hR.mono ?_⟩
        rintro e W' (⟨rfl, hJ', hk'⟩ | ⟨rfl, hJx'⟩)
        · have f0 := (hk'.own q (.inl rfl)).trans d0
          have f1 := (hk'.own kb (.inr rfl)).trans Hdk.out
          clear hk' hR hy d0 d1 z0
          gi_wp2
          go_wp2
          go_roundw
          case rel => exact ⟨k + 1, by omega, by go_num, hJ', f0, f1⟩
          case measure => simp [RowKit.intOf]; omega
        · clear hR hy d0 d1 z0
          gi_wp2
          go_wp2
          simp only [Exit.noGoto]
          go_end0
          exact ⟨⟨_, rfl⟩, .inr ⟨_, hlt, hJx'⟩⟩
    · obtain rfl : k = nk := by omega
      go_wp2_with fail
      simp only [Exit.noGoto]
      go_end0
      exact ⟨⟨_, rfl⟩, .inl hJk⟩
end Go.Vir

