/- Joined texts: FqB, Reg, Gl, G5, Gp, G16, GC, Six. -/
import Derived.Test.YtkkpkcnlocmnhaaGreatDoorJp
import Derived.Test.YtkkpkcnlocmnhaaGreatDoorJn
import Derived.Test.YtkkpkcnlocmnhaaGreatDoorJd
import Derived.Test.YtkkpkcnlocmnhaaGreatDoorJc
import Derived.Test.YtkkpkcnlocmnhaaGreatDoorRows
import Derived.Test.YtkkpkcnlocmnhaaGreatDoorJk
import Derived.Test.YtkkpkcnlocmnhaaGreatDoorJa
import Derived.Test.YtkkpkcnlocmnhaaGreatDoorJo
import Derived.Deep.RegionHeld3
import Derived.Deep.DeepCutAuto
import Derived.ProofKit
import Derived.OpenShut
import Derived.LaidMore
import Derived.LaidLaws
import Derived.LaidHandle
import Derived.Lay
import Derived.HandedShaped
import Derived.Shelf.Vars
import Derived.Stop.Joined
import Derived.ChangeSame
import Derived.Deep.Strs
import Derived.Lib.SmallJoins
import Derived.Carry
namespace Go.Vir
open Go Go.RowKit Go.Proofs
attribute [local go_sem] Oper.semAt_some

set_option maxRecDepth 100000 in
set_option maxHeartbeats 4000000 in
theorem ref16_Right (a : CasA) (c : CasV) (w : World) (hc : CasW w w.heap.size a c) (ho : CasOk a c) :
    Calls Tryz.prog 11 #[a.val] w fun e w' => e = .returned (.bool (rightC c)) ∧ Below w.heap.size w w' := by
  obtain ⟨Al, nl, cl, At, nt, ct, Ci, ni, ci, Cb, nb, cb, Ii, mi, di, Ib, mb, db⟩ := a
  obtain ⟨o1, o2, o3, o4, o5, o6, o7, o8, o9, o10⟩ := ho
  obtain ⟨h1, h2, h3, h4⟩ := hc
  simp only [CasA.val, CasA.cs]
  simp only at o1 o2 o3 o4 o5 o6 h1 h2 h3 h4
  obtain ⟨W0, hW0⟩ : ∃ W0, W0 = w.alloc (.cells #[.slice Al nl cl, .slice At nt ct, .slice Ci ni ci, .slice Cb nb cb, .slice Ii mi di, .slice Ib mb db] 29) := ⟨_, rfl⟩
  have hbw : Below w.heap.size w W0 := by rw [hW0]; go_grown
  have hx0 : W0.heap[w.heap.size]? = some (.cells #[.slice Al nl cl, .slice At nt ct, .slice Ci ni ci, .slice Cb nb cb, .slice Ii mi di, .slice Ib mb db] 29 (0, 0)) := by rw [hW0]; exact heap_new rfl
  have hlt := (Array.getElem?_eq_some_iff.1 hx0).1
  have k1 := ref16_Maps Al nl cl c.lo W0 ((h1.below hbw).more hbw.size) o1 o7
  have k2 := fun (W : World) (hW : Below w.heap.size w W) => ref16_Maps At nt ct c.ti W ((h2.below hW).more hW.size) o2 o8
  have k3 := fun (W : World) (hW : Below w.heap.size w W) => ref06_Right Ci ni ci Cb nb cb c.ca W ((h3.below hW).more hW.size) o3 o4
  have k4 := fun (W : World) (hW : Below w.heap.size w W) => ref06_Right Ii mi di Ib mb db c.ig W ((h4.below hW).more hW.size) o5 o6
  unfold rightC
  generalize mapsB c.lo = b1 at *
  generalize mapsB c.ti = b2 at *
  generalize rightT c.ca = b3 at *
  generalize rightT c.ig = b4 at *
  have K1 := Lib.hid k1
  have K2 := Lib.hid k2
  have K3 := Lib.hid k3
  have K4 := Lib.hid k4
  have Hx := Lib.hid hx0
  have Hbw := Lib.hid hbw
  clear k1 k2 k3 k4 hbw hx0 h1 h2 h3 h4 o1 o2 o3 o4 o5 o6 o7 o8 o9 o10
  obtain ⟨e0, e1, e2, e3, e4, e5⟩ := cells6 Hx.out
  go_enter Tryz.func11, Tryz.ntmps11
  go_upto_region 1 with fail
  rw [← hW0]
  clear hW0
  go_wp2_with fail
  refine K1.out.mono ?_
  clear e0 e1 e2 e3 e4 e5
  rintro e w1 ⟨rfl, hb1⟩
  have hbw1 := Hbw.out.trans (hb1.mono Hbw.out.size)
  have hx1 := (hb1.block _ hlt).trans Hx.out
  obtain ⟨e0, e1, e2, e3, e4, e5⟩ := cells6 hx1
  have hlt1 := (Array.getElem?_eq_some_iff.1 hx1).1
  rcases b1 with _ | _
  · go_wp2_with fail
    go_ret
    exact ⟨by simp, hbw1⟩
  have Hk2 := Lib.hid (K2.out w1 hbw1)
  go_wp2_with fail
  refine Hk2.out.mono ?_
  clear e0 e1 e2 e3 e4 e5
  rintro e w2 ⟨rfl, hb2⟩
  have hbw2 := hbw1.trans (hb2.mono hbw1.size)
  have hx2 := (hb2.block _ hlt1).trans hx1
  obtain ⟨e0, e1, e2, e3, e4, e5⟩ := cells6 hx2
  have hlt2 := (Array.getElem?_eq_some_iff.1 hx2).1
  rcases b2 with _ | _
  · go_wp2_with fail
    go_ret
    exact ⟨by simp, hbw2⟩
  have Hk3 := Lib.hid (K3.out w2 hbw2)
  go_wp2_with fail
  refine Hk3.out.mono ?_
  clear e0 e1 e2 e3 e4 e5
  rintro e w3 ⟨rfl, hb3⟩
  have hbw3 := hbw2.trans (hb3.mono hbw2.size)
  have hx3 := (hb3.block _ hlt2).trans hx2
  obtain ⟨e0, e1, e2, e3, e4, e5⟩ := cells6 hx3
  rcases b3 with _ | _
  · go_wp2_with fail
    go_ret
    exact ⟨by simp, hbw3⟩
  have Hk4 := Lib.hid (K4.out w3 hbw3)
  go_wp2_with fail
  refine Hk4.out.mono ?_
  rintro e w4 ⟨rfl, hb4⟩
  go_wp2_with fail
  go_ret
  exact ⟨by simp, hbw3.trans (hb4.mono hbw3.size)⟩

set_option maxRecDepth 100000 in
set_option maxHeartbeats 4000000 in
theorem ref16_checked (a : CasA) (c : CasV) (r : Int) (w : World) (hc : CasW w w.heap.size a c) (ho : CasOk a c) :
    Calls Tryz.prog 36 #[a.val, .int .i64 r] w fun e w' => e = .returned (.int .i64 (chkC c r)) ∧ Below w.heap.size w w' := by
  have k1 := fun (W : World) (hW : Below w.heap.size w W) => ref16_Right a c W ((hc.below hW).more hW.size) ho
  have kb := fun W => ref01_Right r W
  unfold chkC
  generalize rightC c = b1 at *
  generalize scaR r = b2 at *
  have Kb := Lib.hid kb
  clear hc ho kb
  obtain ⟨Al, nl, cl, At, nt, ct, Ci, ni, ci, Cb, nb, cb, Ii, mi, di, Ib, mb, db⟩ := a
  simp only [CasA.val, CasA.cs] at k1 ⊢
  have hbw : Below w.heap.size w (w.alloc (.cells #[.slice Al nl cl, .slice At nt ct, .slice Ci ni ci, .slice Cb nb cb, .slice Ii mi di, .slice Ib mb db] 29)) := by go_grown
  have K1 := Lib.hid (k1 _ hbw)
  have Hbw := Lib.hid hbw
  clear k1 hbw
  go_enter Tryz.func36, Tryz.ntmps36
  go_wp2_with fail
  refine K1.out.mono ?_
  rintro e w1 ⟨rfl, hb1⟩
  have hbw1 := Hbw.out.trans (hb1.mono Hbw.out.size)
  rcases b1 with _ | _
  · go_wp2_with fail
    go_ret
    exact ⟨by simp, hbw1⟩
  go_wp2_with fail
  refine (Kb.out _).mono ?_
  rintro e w2 ⟨rfl, hb2⟩
  have hbw2 := hbw1.trans (hb2.mono hbw1.size)
  rcases b2 with _ | _
  · go_wp2_with fail
    go_ret
    exact ⟨by simp, hbw2⟩
  · go_wp2_with fail
    go_ret
    exact ⟨by simp, hbw2⟩

set_option maxRecDepth 100000 in
set_option maxHeartbeats 4000000 in
theorem ref16_Becomes (A : Option Addr) (n c : Nat) (l : List MpV) (r : Int) (w : World) (hx : Mps w w.heap.size A n l) (hn : n ≤ 1000000) (hts : ∀ x ∈ l, x.ts.length ≤ 1000000) :
    Calls Tryz.prog 37 #[.slice A n c, .int .i64 r] w fun e w' => BecP (becM l r) e w' ∧ Below w.heap.size w w' := by
  obtain ⟨i0, hi0, hz0, hz1, hz2⟩ := info_parts zint_info
  have hbe : becM l r = (lookM l r).getD [r] := rfl
  generalize becM l r = V at *
  have Hbe := Lib.hid hbe
  have Hx := Lib.hid hx
  have Hlen := Lib.hid hx.len
  have Hts := Lib.hid hts
  clear hx hbe hts
  go_enter Tryz.func37, Tryz.ntmps37
  go_upto_region 2 with fail
  go_loopw [5] (fun i wr => ∃ k : Nat, k ≤ n ∧ i = .int .i64 (k : Int) ∧ lookM l r = lookM (l.drop k) r ∧ Below w.heap.size w wr) (fun i _ => n - (RowKit.intOf i).toNat)
  case atStart => exact ⟨0, Nat.zero_le _, rfl, rfl, Below.refl _ _⟩
  case round =>
    obtain ⟨k, hk, rfl, hlk, hb⟩ := hrel
    rcases Nat.lt_or_ge k n with hkn | hge
    · obtain ⟨zb, zo, rfl, hzb, hzc⟩ := Hx.out.at_ (by omega)
      have hkl : k < l.length := by rw [Hlen.out]; exact hkn
      obtain ⟨A1, n1, c1, x0, x1, hI, _⟩ := hzc k hkl
      have y0 := (cellOf hb hzb).trans x0
      have y1 := (cellOf hb hzb).trans x1
      have hnn : n1 ≤ 1000000 := by rw [← hI.len]; exact Hts.out _ (List.getElem_mem hkl)
      rw [List.drop_eq_getElem_cons hkl, look_cons] at hlk
      have hI2 := (hI.below hb).more hb.size
      generalize l[k] = x at *
      obtain ⟨f, xt⟩ := x
      simp only at y0 hlk hI2
      have HI := Lib.hid hI2
      have Hb := Lib.hid hb
      clear hzc x0 x1 hI hI2 hb
      rcases hd : (f == r) with _ | _
      · rw [if_neg (by simpa using hd)] at hlk
        have Hlk := Lib.hid hlk
        clear hlk
        go_wp2_with fail
        go_roundw
        case rel => exact ⟨k + 1, by omega, by go_num, Hlk.out, Hb.out⟩
        case measure => simp [RowKit.intOf]; omega
      · rw [if_pos (by simpa using hd)] at hlk
        have hV : V = xt := by rw [Hbe.out, hlk]; rfl
        have HV := Lib.hid hV
        have hsrc := Lib.hid (src_ints HI.out)
        have hon := Lib.hid (World.ownsRow_nil wr wr.heap.size 3 1)
        clear hlk hV
        go_wp2_with (at_builtin; refine wpList_append_src _ rfl _ _ 24 rfl wr.heap.size 3 i0 (.int .i64 0) 8 Tryz.underlying24 hi0 hz0 hz1 hz2 rfl _ _ _ rfl hon.out A1 n1 c1 _ rfl hsrc.out (by intro u hu; obtain ⟨z, _, rfl⟩ := List.mem_map.1 hu; rfl) (by simp only [maxLen]; omega) (by omega) (Nat.le_refl _) ?_; intro v' w4 hown' hgrow)
        obtain ⟨A', c', rfl, hnc, hI4⟩ := own_ints3 (l := xt) (n := 0 + n1) (by have h := hown'; rw [List.nil_append] at h; exact h)
        have hb4 : Below wr.heap.size wr w4 := (Below.refl _ _).grown hgrow (Nat.le_refl _) (fun q hq => by have hq : (none : Option Nat) = some q := hq; cases hq)
        have HI4 := Lib.hid hI4
        clear hown' hgrow hI4
        go_wp2_with fail
        go_ret
        rw [HV.out]
        exact ⟨⟨_, _, _, rfl, hnc, HI4.out⟩, Hb.out.trans (hb4.mono Hb.out.size)⟩
    · rw [List.drop_eq_nil_of_le (by rw [Hlen.out]; exact hge)] at hlk
      have hV : V = [r] := by rw [Hbe.out, hlk]; rfl
      have HV := Lib.hid hV
      have Hb := Lib.hid hb
      clear hlk hV hb
      go_wp2_with fail
      go_ret
      rw [HV.out]
      exact ⟨⟨_, _, _, rfl, Nat.le_refl _, ints_single (heap_new rfl)⟩, Hb.out.alloc Hb.out.size _⟩
set_option maxRecDepth 100000 in
set_option maxHeartbeats 4000000 in
theorem ref16_Lower (a : CasA) (c : CasV) (r : Int) (w : World) (hc : CasW w w.heap.size a c) (ho : CasOk a c) :
    Calls Tryz.prog 14 #[a.val, .int .i64 r] w fun e w' => LowP (lowC c r) e w' ∧ Below w.heap.size w w' := by
  have k1 := fun (W : World) (hW : Below w.heap.size w W) => ref16_checked a c r W ((hc.below hW).more hW.size) ho
  have hl : lowC c r = if chkC c r = 0 then (becM c.lo r, 0) else ([], chkC c r) := rfl
  generalize chkC c r = ch at *
  have k2 := fun (W : World) (hW : Below w.heap.size w W) => ref16_Becomes a.Al a.nl a.cl c.lo r W ((Mps.below hc.lo hW).more hW.size) ho.nl ho.lo
  clear hc ho
  obtain ⟨Al, nl, cl, At, nt, ct, Ci, ni, ci, Cb, nb, cb, Ii, mi, di, Ib, mb, db⟩ := a
  simp only [CasA.val, CasA.cs] at k1 k2 ⊢
  obtain ⟨W0, hW0⟩ : ∃ W0, W0 = w.alloc (.cells #[.slice Al nl cl, .slice At nt ct, .slice Ci ni ci, .slice Cb nb cb, .slice Ii mi di, .slice Ib mb db] 29) := ⟨_, rfl⟩
  have hbw : Below w.heap.size w W0 := by rw [hW0]; go_grown
  have hx0 : W0.heap[w.heap.size]? = some (.cells #[.slice Al nl cl, .slice At nt ct, .slice Ci ni ci, .slice Cb nb cb, .slice Ii mi di, .slice Ib mb db] 29 (0, 0)) := by rw [hW0]; exact heap_new rfl
  have hlt := (Array.getElem?_eq_some_iff.1 hx0).1
  have K1 := Lib.hid (k1 W0 hbw)
  have K2 := Lib.hid k2
  have Hx := Lib.hid hx0
  have Hbw := Lib.hid hbw
  have Hl := Lib.hid hl
  clear k1 k2 hbw hx0 hl
  obtain ⟨e0, e1, e2, e3, e4, e5⟩ := cells6 Hx.out
  go_enter Tryz.func14, Tryz.ntmps14
  go_upto_region 1 with fail
  rw [← hW0]
  clear hW0
  go_wp2_with fail
  refine K1.out.mono ?_
  clear e0 e1 e2 e3 e4 e5
  rintro e w1 ⟨rfl, hb1⟩
  have hbw1 := Hbw.out.trans (hb1.mono Hbw.out.size)
  have hx1 := (hb1.block _ hlt).trans Hx.out
  obtain ⟨e0, e1, e2, e3, e4, e5⟩ := cells6 hx1
  by_cases h0 : ch = 0
  · have hl0 := Hl.out
    rw [if_pos h0] at hl0
    have Hl0 := Lib.hid hl0
    subst h0
    clear hl0 Hl
    have Hk2 := Lib.hid (K2.out w1 hbw1)
    go_wp2_with fail
    refine Hk2.out.mono ?_
    rintro e w2 ⟨⟨A, n, c', rfl, hnc, hI⟩, hb2⟩
    go_wp2_with fail
    go_ret2
    rw [Hl0.out]
    exact ⟨⟨_, _, _, rfl, hnc, hI⟩, hbw1.trans (hb2.mono hbw1.size)⟩
  · have hne : (ch != 0) = true := by simpa using h0
    have Hn := Lib.hid h0
    clear h0
    go_wp2_with fail
    go_ret2
    rw [Hl.out, if_neg Hn.out]
    exact ⟨⟨_, _, _, rfl, Nat.le_refl _, Ints.nil _ _ _⟩, hbw1⟩
set_option maxRecDepth 100000 in
set_option maxHeartbeats 4000000 in
theorem ref16_Title (a : CasA) (c : CasV) (r : Int) (w : World) (hc : CasW w w.heap.size a c) (ho : CasOk a c) :
    Calls Tryz.prog 16 #[a.val, .int .i64 r] w fun e w' => LowP (titC c r) e w' ∧ Below w.heap.size w w' := by
  have k1 := fun (W : World) (hW : Below w.heap.size w W) => ref16_checked a c r W ((hc.below hW).more hW.size) ho
  have hl : titC c r = if chkC c r = 0 then (becM c.ti r, 0) else ([], chkC c r) := rfl
  generalize chkC c r = ch at *
  have k2 := fun (W : World) (hW : Below w.heap.size w W) => ref16_Becomes a.At a.nt a.ct c.ti r W ((Mps.below hc.ti hW).more hW.size) ho.nt ho.ti
  clear hc ho
  obtain ⟨Al, nl, cl, At, nt, ct, Ci, ni, ci, Cb, nb, cb, Ii, mi, di, Ib, mb, db⟩ := a
  simp only [CasA.val, CasA.cs] at k1 k2 ⊢
  obtain ⟨W0, hW0⟩ : ∃ W0, W0 = w.alloc (.cells #[.slice Al nl cl, .slice At nt ct, .slice Ci ni ci, .slice Cb nb cb, .slice Ii mi di, .slice Ib mb db] 29) := ⟨_, rfl⟩
  have hbw : Below w.heap.size w W0 := by rw [hW0]; go_grown
  have hx0 : W0.heap[w.heap.size]? = some (.cells #[.slice Al nl cl, .slice At nt ct, .slice Ci ni ci, .slice Cb nb cb, .slice Ii mi di, .slice Ib mb db] 29 (0, 0)) := by rw [hW0]; exact heap_new rfl
  have hlt := (Array.getElem?_eq_some_iff.1 hx0).1
  have K1 := Lib.hid (k1 W0 hbw)
  have K2 := Lib.hid k2
  have Hx := Lib.hid hx0
  have Hbw := Lib.hid hbw
  have Hl := Lib.hid hl
  clear k1 k2 hbw hx0 hl
  obtain ⟨e0, e1, e2, e3, e4, e5⟩ := cells6 Hx.out
  go_enter Tryz.func16, Tryz.ntmps16
  go_upto_region 1 with fail
  rw [← hW0]
  clear hW0
  go_wp2_with fail
  refine K1.out.mono ?_
  clear e0 e1 e2 e3 e4 e5
  rintro e w1 ⟨rfl, hb1⟩
  have hbw1 := Hbw.out.trans (hb1.mono Hbw.out.size)
  have hx1 := (hb1.block _ hlt).trans Hx.out
  obtain ⟨e0, e1, e2, e3, e4, e5⟩ := cells6 hx1
  by_cases h0 : ch = 0
  · have hl0 := Hl.out
    rw [if_pos h0] at hl0
    have Hl0 := Lib.hid hl0
    subst h0
    clear hl0 Hl
    have Hk2 := Lib.hid (K2.out w1 hbw1)
    go_wp2_with fail
    refine Hk2.out.mono ?_
    rintro e w2 ⟨⟨A, n, c', rfl, hnc, hI⟩, hb2⟩
    go_wp2_with fail
    go_ret2
    rw [Hl0.out]
    exact ⟨⟨_, _, _, rfl, hnc, hI⟩, hbw1.trans (hb2.mono hbw1.size)⟩
  · have hne : (ch != 0) = true := by simpa using h0
    have Hn := Lib.hid h0
    clear h0
    go_wp2_with fail
    go_ret2
    rw [Hl.out, if_neg Hn.out]
    exact ⟨⟨_, _, _, rfl, Nat.le_refl _, Ints.nil _ _ _⟩, hbw1⟩

theorem chkC_zero {c : CasV} {r : Int} (h : chkC c r = 0) : rightT c.ca = true ∧ rightT c.ig = true ∧ (0 ≤ r ∧ r ≤ 1114111) := by
  unfold chkC at h
  split at h
  · rename_i hr
    unfold rightC at hr
    simp only [Bool.and_eq_true] at hr
    split at h
    · rename_i hs
      unfold scaR at hs
      simp only [Bool.and_eq_true, decide_eq_true_eq] at hs
      exact ⟨hr.2.2.1, hr.2.2.2, by omega, by omega⟩
    · cases h
  · cases h
set_option maxHeartbeats 2000000 in
theorem ref16_Says (Ai : Option Addr) (ni ci : Nat) (Ab : Option Addr) (nb cb : Nat) (T : TrV) (r : Int) (w : World) (hT : Tri w w.heap.size Ai ni Ab nb T) (hrt : rightT T = true) (hr : 0 ≤ r ∧ r ≤ 1114111) :
    Calls Tryz.prog 39 #[.agg #[.slice Ai ni ci, .slice Ab nb cb], .int .i64 r] w fun e w' => e = .returned (.bool (decide (valT T r ≠ 0))) ∧ Below w.heap.size w w' := by
  obtain ⟨W0, hW0⟩ : ∃ W0, W0 = w.alloc (.cells #[.slice Ai ni ci, .slice Ab nb cb] 27) := ⟨_, rfl⟩
  have hbw : Below w.heap.size w W0 := by rw [hW0]; go_grown
  have hx0 : W0.heap[w.heap.size]? = some (.cells #[.slice Ai ni ci, .slice Ab nb cb] 27 (0, 0)) := by rw [hW0]; exact heap_new rfl
  obtain ⟨k, rfl⟩ : ∃ k : Nat, r = (k : Int) := ⟨r.toNat, by omega⟩
  have hk : k ≤ 1114111 := by omega
  have hv : valT T (k : Int) = atT T k := by unfold valT; rw [if_pos ⟨by omega, by omega, hrt⟩]; rfl
  obtain ⟨ib, io, bb, bo, b, o, c', n, rfl, rfl, hib, hbb, hbl, hn, rfl, hc', c1, c2, c3⟩ := hT.cell hrt hk
  rw [hv]
  have e3 : k / 256 < 4352 := by omega
  have e4 : k % 256 < 256 := Nat.mod_lt _ (by decide)
  have e5 : ((k : Int)).tdiv 256 = ((k / 256 : Nat) : Int) := by rw [Int.tdiv_eq_ediv_of_nonneg (by omega)]; rfl
  have e6 : ((k : Int)).tmod 256 = ((k % 256 : Nat) : Int) := by rw [Int.tmod_eq_emod_of_nonneg (by omega)]; rfl
  generalize atT T k = v at *
  have n1 : (v != 0) = decide (v ≠ 0) := by rw [Bool.eq_iff_iff]; simp
  rw [← n1]
  generalize k / 256 = kq at *
  generalize k % 256 = kr at *
  obtain ⟨x0, x1⟩ := cellsP hx0
  have d1 := (cellOf hbw hib).trans c1
  have d2 := (cellOf hbw hbb).trans c2
  have d3 := (cellOf hbw hbl).trans c3
  clear c1 c2 c3 hT hrt hv hr n1
  go_enter Tryz.func39, Tryz.ntmps39
  go_upto_region 1 with fail
  rw [← hW0]
  clear hW0
  go_quiet (fail)
  go_wp2_with fail
  go_ret
  exact ⟨rfl, hbw.trans (Below.mono (below_drewN _ _ _) hbw.size)⟩
set_option maxRecDepth 100000 in
set_option maxHeartbeats 4000000 in
theorem ref16_Kind (a : CasA) (c : CasV) (r : Int) (w : World) (hc : CasW w w.heap.size a c) (ho : CasOk a c) :
    Calls Tryz.prog 18 #[a.val, .int .i64 r] w fun e w' => e = .returned (.tuple #[.bool (kindC c r).1, .bool (kindC c r).2.1, .int .i64 (kindC c r).2.2]) ∧ Below w.heap.size w w' := by
  have k1 := fun (W : World) (hW : Below w.heap.size w W) => ref16_checked a c r W ((hc.below hW).more hW.size) ho
  have hl : kindC c r = if chkC c r = 0 then (decide (valT c.ca r ≠ 0), decide (valT c.ig r ≠ 0), 0) else (false, false, chkC c r) := rfl
  generalize kindC c r = K at *
  have k2 : chkC c r = 0 → ∀ (W : World), Below w.heap.size w W → Calls Tryz.prog 39 #[.agg #[.slice a.Ci a.ni a.ci, .slice a.Cb a.nb a.cb], .int .i64 r] W fun e w' => e = .returned (.bool (decide (valT c.ca r ≠ 0))) ∧ Below W.heap.size W w' := fun h W hW => by
    obtain ⟨h1, h2, h3⟩ := chkC_zero h
    exact ref16_Says a.Ci a.ni a.ci a.Cb a.nb a.cb c.ca r W ((Tri.below hc.ca hW).more hW.size) h1 h3
  have k3 : chkC c r = 0 → ∀ (W : World), Below w.heap.size w W → Calls Tryz.prog 39 #[.agg #[.slice a.Ii a.mi a.di, .slice a.Ib a.mb a.db], .int .i64 r] W fun e w' => e = .returned (.bool (decide (valT c.ig r ≠ 0))) ∧ Below W.heap.size W w' := fun h W hW => by
    obtain ⟨h1, h2, h3⟩ := chkC_zero h
    exact ref16_Says a.Ii a.mi a.di a.Ib a.mb a.db c.ig r W ((Tri.below hc.ig hW).more hW.size) h2 h3
  clear hc ho
  generalize chkC c r = ch at *
  generalize decide (valT c.ca r ≠ 0) = v1 at *
  generalize decide (valT c.ig r ≠ 0) = v2 at *
  obtain ⟨Al, nl, cl, At, nt, ct, Ci, ni, ci, Cb, nb, cb, Ii, mi, di, Ib, mb, db⟩ := a
  simp only [CasA.val, CasA.cs] at k1 k2 k3 ⊢
  obtain ⟨W0, hW0⟩ : ∃ W0, W0 = w.alloc (.cells #[.slice Al nl cl, .slice At nt ct, .slice Ci ni ci, .slice Cb nb cb, .slice Ii mi di, .slice Ib mb db] 29) := ⟨_, rfl⟩
  have hbw : Below w.heap.size w W0 := by rw [hW0]; go_grown
  have hx0 : W0.heap[w.heap.size]? = some (.cells #[.slice Al nl cl, .slice At nt ct, .slice Ci ni ci, .slice Cb nb cb, .slice Ii mi di, .slice Ib mb db] 29 (0, 0)) := by rw [hW0]; exact heap_new rfl
  have hlt := (Array.getElem?_eq_some_iff.1 hx0).1
  have K1 := Lib.hid (k1 W0 hbw)
  have K2 := Lib.hid k2
  have K3 := Lib.hid k3
  have Hx := Lib.hid hx0
  have Hbw := Lib.hid hbw
  have Hl := Lib.hid hl
  clear k1 k2 k3 hbw hx0 hl
  obtain ⟨e0, e1, e2, e3, e4, e5⟩ := cells6 Hx.out
  go_enter Tryz.func18, Tryz.ntmps18
  go_upto_region 1 with fail
  rw [← hW0]
  clear hW0
  go_wp2_with fail
  refine K1.out.mono ?_
  clear e0 e1 e2 e3 e4 e5
  rintro e w1 ⟨rfl, hb1⟩
  have hbw1 := Hbw.out.trans (hb1.mono Hbw.out.size)
  have hx1 := (hb1.block _ hlt).trans Hx.out
  obtain ⟨e0, e1, e2, e3, e4, e5⟩ := cells6 hx1
  by_cases h0 : ch = 0
  · have hl0 := Hl.out
    rw [if_pos h0] at hl0
    have Hl0 := Lib.hid hl0
    subst h0
    clear hl0 Hl
    go_upto_region 4 with fail
    have hlt1 := (Array.getElem?_eq_some_iff.1 hx1).1
    refine wp_region_noPanic ?_
    refine wp_region_held_drew (S := (fun V => V.cell? ⟨w.heap.size, 2, none⟩ = some (.slice Ci ni ci) ∧ V.cell? ⟨w.heap.size, 3, none⟩ = some (.slice Cb nb cb) ∧ V.cell? ⟨w.heap.size, 4, none⟩ = some (.slice Ii mi di) ∧ V.cell? ⟨w.heap.size, 5, none⟩ = some (.slice Ib mb db))) (by kernel_rfl) ⟨e2, e3, e4, e5⟩ (fun hHeld => ?_)
    refine wpAnyH_take (i := 0) (v := .pointer (some ⟨w.heap.size, 2, none⟩)) rfl (by kernel_rfl) (by kernel_rfl) (by kernel_rfl) (fun _ _ _ h => h) (.inl ⟨by rfl, fun V hV => by obtain ⟨c0, c1, c2, c3⟩ := hV; go_simp⟩) hHeld ?_
    try simp only [Act.put, qB, qC, qE, qF, qG]
    refine wpAnyH_take (i := 1) (v := .agg #[.slice Ci ni ci, .slice Cb nb cb]) rfl (by kernel_rfl) (by kernel_rfl) (by kernel_rfl) (fun _ _ _ h => h) (.inl ⟨by rfl, fun V hV => by obtain ⟨c0, c1, c2, c3⟩ := hV; go_simp⟩) hHeld ?_
    try simp only [Act.put, qB, qC, qD, qE, qF, qG]
    refine wpAnyH_take (i := 2) (v := .int .i64 r) rfl (by kernel_rfl) (by kernel_rfl) (by kernel_rfl) (fun _ _ _ h => h) (.inl ⟨by rfl, fun V hV => by obtain ⟨c0, c1, c2, c3⟩ := hV; go_simp⟩) hHeld ?_
    try simp only [Act.put, qB, qC, qD, qE, qF, qG]
    refine wpAnyH_take (i := 4) (v := .pointer (some ⟨w.heap.size, 4, none⟩)) rfl (by kernel_rfl) (by kernel_rfl) (by kernel_rfl) (fun _ _ _ h => h) (.inl ⟨by rfl, fun V hV => by obtain ⟨c0, c1, c2, c3⟩ := hV; go_simp⟩) hHeld ?_
    try simp only [Act.put, qB, qC, qD, qE, qF, qG]
    refine wpAnyH_take (i := 5) (v := .agg #[.slice Ii mi di, .slice Ib mb db]) rfl (by kernel_rfl) (by kernel_rfl) (by kernel_rfl) (fun _ _ _ h => h) (.inl ⟨by rfl, fun V hV => by obtain ⟨c0, c1, c2, c3⟩ := hV; go_simp⟩) hHeld ?_
    try simp only [Act.put, qB, qC, qD, qE, qF, qG]
    refine wpAnyH_take (i := 6) (v := .int .i64 r) rfl (by kernel_rfl) (by kernel_rfl) (by kernel_rfl) (fun _ _ _ h => h) (.inl ⟨by rfl, fun V hV => by obtain ⟨c0, c1, c2, c3⟩ := hV; go_simp⟩) hHeld ?_
    try simp only [Act.put, qB, qC, qD, qE, qF, qG]
    refine wpAnyH_ready (rs := [3]) (by kernel_rfl) (by simp) ?_
    refine AllReadyH.cons rfl (fun K hK => ?_) AllReadyH.nil
    go_simp
    refine (K2.out trivial _ hbw1.drew).mono ?_
    rintro e wA ⟨rfl, hbA⟩
    have hqA := hbw1.drew.trans (hbA.mono hbw1.drew.size)
    have hxA := (hbA.block _ hlt1).trans hx1
    refine hK.out _ _ ⟨cell_blk hxA 2, cell_blk hxA 3, cell_blk hxA 4, cell_blk hxA 5⟩ (fun hHeld => ?_)
    clear hK K
    try simp only [Act.put, qB, qC, qD, qE, qF, qG]
    refine wpAnyH_ready (rs := [7]) (by kernel_rfl) (by simp) ?_
    refine AllReadyH.cons rfl (fun K hK => ?_) AllReadyH.nil
    go_simp
    refine (K3.out trivial _ hqA).mono ?_
    rintro e wB ⟨rfl, hbB⟩
    have hqB := hqA.trans (hbB.mono hqA.size)
    have hxB := (hbB.block _ (Array.getElem?_eq_some_iff.1 hxA).1).trans hxA
    refine hK.out _ _ ⟨cell_blk hxB 2, cell_blk hxB 3, cell_blk hxB 4, cell_blk hxB 5⟩ (fun hHeld => ?_)
    clear hK K
    try simp only [Act.put, qB, qC, qD, qE, qF, qG]
    refine wpAnyH_take (i := 8) (v := .bool v1) rfl (by kernel_rfl) (by kernel_rfl) (by kernel_rfl) (fun _ _ _ h => h) (.inl ⟨by rfl, fun V hV => by obtain ⟨c0, c1, c2, c3⟩ := hV; go_simp⟩) hHeld ?_
    try simp only [Act.put, qB, qC, qD, qE, qF, qG]
    refine wpAnyH_take (i := 9) (v := .bool v2) rfl (by kernel_rfl) (by kernel_rfl) (by kernel_rfl) (fun _ _ _ h => h) (.inl ⟨by rfl, fun V hV => by obtain ⟨c0, c1, c2, c3⟩ := hV; go_simp⟩) hHeld ?_
    try simp only [Act.put, qB, qC, qD, qE, qF, qG]
    refine wpAnyH_take (i := 10) (v := .int .i64 0) rfl (by kernel_rfl) (by kernel_rfl) (by kernel_rfl) (fun _ _ _ h => h) (.inl ⟨by rfl, fun V hV => by obtain ⟨c0, c1, c2, c3⟩ := hV; go_simp⟩) hHeld ?_
    try simp only [Act.put, qB, qC, qD, qE, qF, qG]
    refine wpAnyH_done (by kernel_rfl) ?_ _
    refine NoPanic.normal ?_
    go_wp2_with fail
    go_ret3
    rw [Hl0.out]
    exact ⟨rfl, hqB⟩
  · have hne : (ch != 0) = true := by simpa using h0
    have Hn := Lib.hid h0
    clear h0
    go_wp2_with fail
    go_ret3
    rw [Hl.out, if_neg Hn.out]
    exact ⟨rfl, hbw1⟩
set_option maxRecDepth 100000 in
set_option maxHeartbeats 4000000 in
theorem ref16_maps (A A2 : Option Addr) (m c m2 c2 : Nat) (xs ys : List MpV) (w : World) (hx : Mps w w.heap.size A m xs) (hy : Mps w w.heap.size A2 m2 ys) (hm : m ≤ 1000000) (hts : ∀ x ∈ xs, x.ts.length ≤ 1000000) :
    Calls Tryz.prog 28 #[.slice A m c, .slice A2 m2 c2] w fun e w' => e = .returned (.bool (decide (xs = ys))) ∧ Below w.heap.size w w' := by
  have hxl := hx.len
  have hyl := hy.len
  rcases hne : ((m : Int) != (m2 : Int)) with _ | _
  rotate_left
  · have hd : decide (xs = ys) = false := by
      rw [decide_eq_false_iff_not]
      rintro rfl
      rw [bne_iff_ne] at hne
      omega
    rw [hd]
    go_enter Tryz.func28, Tryz.ntmps28
    go_wp2_with fail
    go_ret
    exact ⟨rfl, Below.refl _ _⟩
  · have hmm : m = m2 := by
      have : ¬ ((m : Int) ≠ (m2 : Int)) := by rw [← bne_iff_ne, hne]; simp
      omega
    subst hmm
    generalize hV : decide (xs = ys) = V
    have HV := Lib.hid hV
    clear hV
    go_enter Tryz.func28, Tryz.ntmps28
    go_upto_region 4 with fail
    have Hxl := Lib.hid hxl
    have Hyl := Lib.hid hyl
    clear hxl hyl
    go_loopw [5] (fun i wr => ∃ k : Nat, k ≤ m ∧ i = .int .i64 (k : Int) ∧ xs.take k = ys.take k ∧ Below w.heap.size w wr) (fun i _ => m - (RowKit.intOf i).toNat)
    case atStart => exact ⟨0, Nat.zero_le _, rfl, by simp, Below.refl _ _⟩
    case round =>
      obtain ⟨k, hk, rfl, htk, hbr⟩ := hrel
      have Htk := Lib.hid htk
      clear htk
      rcases Nat.lt_or_ge k m with hkm | hge
      · obtain ⟨b1, o1, rfl, hb1, hc1⟩ := hx.at_ (by omega)
        obtain ⟨b2, o2, rfl, hb2, hc2⟩ := hy.at_ (by omega)
        have hkx : k < xs.length := by rw [Hxl.out]; exact hkm
        have hky : k < ys.length := by rw [Hyl.out]; exact hkm
        obtain ⟨A3, n3, c3, g0, g1, g2, _⟩ := hc1 k hkx
        obtain ⟨A4, n4, c4, f0, f1, f2, _⟩ := hc2 k hky
        have u0 := (cellOf hbr hb1).trans g0
        have u1 := (cellOf hbr hb1).trans g1
        have v0 := (cellOf hbr hb2).trans f0
        have v1 := (cellOf hbr hb2).trans f1
        have hlt1 : b1 < wr.heap.size := Nat.lt_of_lt_of_le hb1 hbr.size
        have hlt2 : b2 < wr.heap.size := Nat.lt_of_lt_of_le hb2 hbr.size
        have hnn : n3 ≤ 1000000 := by rw [← g2.len]; exact hts _ (List.getElem_mem hkx)
        have k1 := fun (W : World) (hW : Below wr.heap.size wr W) => ref_Ints A3 A4 n3 c3 n4 c4 xs[k].ts ys[k].ts W ((g2.below (hbr.trans (hW.mono hbr.size))).more (hbr.trans (hW.mono hbr.size)).size) ((f2.below (hbr.trans (hW.mono hbr.size))).more (hbr.trans (hW.mono hbr.size)).size) hnn
        have hnx := fun h => take_next hkx hky Htk.out h
        have hno : xs[k] ≠ ys[k] → V = false := fun h => by
          rw [← HV.out, decide_eq_false_iff_not]
          rintro rfl
          exact h rfl
        clear hc1 hc2 g0 g1 g2 f0 f1 f2
        generalize xs[k] = x at *
        generalize ys[k] = y at *
        obtain ⟨x1, x2⟩ := x
        obtain ⟨y1, y2⟩ := y
        simp only at u0 u1 v0 v1 k1
        rcases hne1 : (x1 != y1) with _ | _
        rotate_left
        · have hv := hno (by intro h2; cases h2; simp at hne1)
          have Hv := Lib.hid hv
          have Hbr := Lib.hid hbr
          clear hnx hno hv k1 hbr
          go_upto_region 6 with fail
          refine wp_region_noPanic ?_
          refine wp_region_held_drew (S := (fun V => V.cell? ⟨b1, o1 + k * 2, none⟩ = some (.int .i64 x1) ∧ V.cell? ⟨b1, o1 + k * 2 + 1, none⟩ = some (.slice A3 n3 c3) ∧ V.cell? ⟨b2, o2 + k * 2, none⟩ = some (.int .i64 y1) ∧ V.cell? ⟨b2, o2 + k * 2 + 1, none⟩ = some (.slice A4 n4 c4))) (by kernel_rfl) ⟨u0, u1, v0, v1⟩ (fun hHeld => ?_)
          refine wpAnyH_take (i := 0) (v := .slice (some ⟨b1, o1, none⟩) m c) rfl (by kernel_rfl) (by kernel_rfl) (by kernel_rfl) (fun _ _ _ h => h) (.inl ⟨by rfl, fun V hV => by obtain ⟨c0, c1, c2, c3⟩ := hV; go_simp⟩) hHeld ?_
          try simp only [Act.put, qB, qC, qE, qF, qG]
          refine wpAnyH_take (i := 1) (v := .int .i64 (k : Int)) rfl (by kernel_rfl) (by kernel_rfl) (by kernel_rfl) (fun _ _ _ h => h) (.inl ⟨by rfl, fun V hV => by obtain ⟨c0, c1, c2, c3⟩ := hV; go_simp⟩) hHeld ?_
          try simp only [Act.put, qB, qC, qD, qE, qF, qG]
          refine wpAnyH_take (i := 2) (v := .pointer (some ⟨b1, o1 + k * 2, none⟩)) rfl (by kernel_rfl) (by kernel_rfl) (by kernel_rfl) (fun _ _ _ h => h) (.inl ⟨by rfl, fun V hV => by obtain ⟨c0, c1, c2, c3⟩ := hV; go_simp⟩) hHeld ?_
          try simp only [Act.put, qB, qC, qD, qE, qF, qG]
          refine wpAnyH_take (i := 3) (v := .pointer (some ⟨b1, o1 + k * 2, none⟩)) rfl (by kernel_rfl) (by kernel_rfl) (by kernel_rfl) (fun _ _ _ h => h) (.inl ⟨by rfl, fun V hV => by obtain ⟨c0, c1, c2, c3⟩ := hV; go_simp⟩) hHeld ?_
          try simp only [Act.put, qB, qC, qD, qE, qF, qG]
          refine wpAnyH_take (i := 4) (v := .int .i64 x1) rfl (by kernel_rfl) (by kernel_rfl) (by kernel_rfl) (fun _ _ _ h => h) (.inl ⟨by rfl, fun V hV => by obtain ⟨c0, c1, c2, c3⟩ := hV; go_simp⟩) hHeld ?_
          try simp only [Act.put, qB, qC, qD, qE, qF, qG]
          refine wpAnyH_take (i := 5) (v := .slice (some ⟨b2, o2, none⟩) m c2) rfl (by kernel_rfl) (by kernel_rfl) (by kernel_rfl) (fun _ _ _ h => h) (.inl ⟨by rfl, fun V hV => by obtain ⟨c0, c1, c2, c3⟩ := hV; go_simp⟩) hHeld ?_
          try simp only [Act.put, qB, qC, qD, qE, qF, qG]
          refine wpAnyH_take (i := 6) (v := .int .i64 (k : Int)) rfl (by kernel_rfl) (by kernel_rfl) (by kernel_rfl) (fun _ _ _ h => h) (.inl ⟨by rfl, fun V hV => by obtain ⟨c0, c1, c2, c3⟩ := hV; go_simp⟩) hHeld ?_
          try simp only [Act.put, qB, qC, qD, qE, qF, qG]
          refine wpAnyH_take (i := 7) (v := .pointer (some ⟨b2, o2 + k * 2, none⟩)) rfl (by kernel_rfl) (by kernel_rfl) (by kernel_rfl) (fun _ _ _ h => h) (.inl ⟨by rfl, fun V hV => by obtain ⟨c0, c1, c2, c3⟩ := hV; go_simp⟩) hHeld ?_
          try simp only [Act.put, qB, qC, qD, qE, qF, qG]
          refine wpAnyH_take (i := 8) (v := .pointer (some ⟨b2, o2 + k * 2, none⟩)) rfl (by kernel_rfl) (by kernel_rfl) (by kernel_rfl) (fun _ _ _ h => h) (.inl ⟨by rfl, fun V hV => by obtain ⟨c0, c1, c2, c3⟩ := hV; go_simp⟩) hHeld ?_
          try simp only [Act.put, qB, qC, qD, qE, qF, qG]
          refine wpAnyH_take (i := 9) (v := .int .i64 y1) rfl (by kernel_rfl) (by kernel_rfl) (by kernel_rfl) (fun _ _ _ h => h) (.inl ⟨by rfl, fun V hV => by obtain ⟨c0, c1, c2, c3⟩ := hV; go_simp⟩) hHeld ?_
          try simp only [Act.put, qB, qC, qD, qE, qF, qG]
          refine wpAnyH_take (i := 10) (v := .bool true) rfl (by kernel_rfl) (by kernel_rfl) (by kernel_rfl) (fun _ _ _ h => h) (.inl ⟨by rfl, fun V hV => by obtain ⟨c0, c1, c2, c3⟩ := hV; go_simp⟩) hHeld ?_
          try simp only [Act.put, qB, qC, qD, qE, qF, qG]
          refine wpAnyH_take (i := 11) (v := .bool true) rfl (by kernel_rfl) (by kernel_rfl) (by kernel_rfl) (fun _ _ _ h => h) (.inl ⟨by rfl, fun V hV => by obtain ⟨c0, c1, c2, c3⟩ := hV; go_simp⟩) hHeld ?_
          try simp only [Act.put, qB, qC, qD, qE, qF, qG]
          refine wpAnyH_take (i := 12) (v := undef) rfl (by kernel_rfl) (by kernel_rfl) (by kernel_rfl) (fun _ _ _ h => h) (.inr ⟨by rfl, rfl⟩) hHeld ?_
          try simp only [Act.put, qB, qC, qD, qE, qF, qG]
          refine wpAnyH_take (i := 13) (v := undef) rfl (by kernel_rfl) (by kernel_rfl) (by kernel_rfl) (fun _ _ _ h => h) (.inr ⟨by rfl, rfl⟩) hHeld ?_
          try simp only [Act.put, qB, qC, qD, qE, qF, qG]
          refine wpAnyH_take (i := 14) (v := undef) rfl (by kernel_rfl) (by kernel_rfl) (by kernel_rfl) (fun _ _ _ h => h) (.inr ⟨by rfl, rfl⟩) hHeld ?_
          try simp only [Act.put, qB, qC, qD, qE, qF, qG]
          refine wpAnyH_take (i := 15) (v := undef) rfl (by kernel_rfl) (by kernel_rfl) (by kernel_rfl) (fun _ _ _ h => h) (.inr ⟨by rfl, rfl⟩) hHeld ?_
          try simp only [Act.put, qB, qC, qD, qE, qF, qG]
          refine wpAnyH_take (i := 16) (v := undef) rfl (by kernel_rfl) (by kernel_rfl) (by kernel_rfl) (fun _ _ _ h => h) (.inr ⟨by rfl, rfl⟩) hHeld ?_
          try simp only [Act.put, qB, qC, qD, qE, qF, qG]
          refine wpAnyH_take (i := 17) (v := undef) rfl (by kernel_rfl) (by kernel_rfl) (by kernel_rfl) (fun _ _ _ h => h) (.inr ⟨by rfl, rfl⟩) hHeld ?_
          try simp only [Act.put, qB, qC, qD, qE, qF, qG]
          refine wpAnyH_take (i := 18) (v := undef) rfl (by kernel_rfl) (by kernel_rfl) (by kernel_rfl) (fun _ _ _ h => h) (.inr ⟨by rfl, rfl⟩) hHeld ?_
          try simp only [Act.put, qB, qC, qD, qE, qF, qG]
          refine wpAnyH_take (i := 19) (v := undef) rfl (by kernel_rfl) (by kernel_rfl) (by kernel_rfl) (fun _ _ _ h => h) (.inr ⟨by rfl, rfl⟩) hHeld ?_
          try simp only [Act.put, qB, qC, qD, qE, qF, qG]
          refine wpAnyH_take (i := 20) (v := undef) rfl (by kernel_rfl) (by kernel_rfl) (by kernel_rfl) (fun _ _ _ h => h) (.inr ⟨by rfl, rfl⟩) hHeld ?_
          try simp only [Act.put, qB, qC, qD, qE, qF, qG]
          refine wpAnyH_take (i := 21) (v := undef) rfl (by kernel_rfl) (by kernel_rfl) (by kernel_rfl) (fun _ _ _ h => h) (.inr ⟨by rfl, rfl⟩) hHeld ?_
          try simp only [Act.put, qB, qC, qD, qE, qF, qG]
          refine wpAnyH_ready (rs := [22]) (by kernel_rfl) (by simp) ?_
          refine AllReadyH.cons rfl (fun K hK => ?_) AllReadyH.nil
          go_simp
          refine hK.out _ _ hHeld (fun hHeld => ?_)
          clear hK K
          try simp only [Act.put, qB, qC, qD, qE, qF, qG]
          refine wpAnyH_take (i := 23) (v := undef) rfl (by kernel_rfl) (by kernel_rfl) (by kernel_rfl) (fun _ _ _ h => h) (.inr ⟨by rfl, rfl⟩) hHeld ?_
          try simp only [Act.put, qB, qC, qD, qE, qF, qG]
          refine wpAnyH_take (i := 24) (v := .bool true) rfl (by kernel_rfl) (by kernel_rfl) (by kernel_rfl) (fun _ _ _ h => h) (.inl ⟨by rfl, fun V hV => by obtain ⟨c0, c1, c2, c3⟩ := hV; go_simp⟩) hHeld ?_
          try simp only [Act.put, qB, qC, qD, qE, qF, qG]
          refine wpAnyH_done (by kernel_rfl) ?_ _
          refine NoPanic.normal ?_
          clear hHeld
          go_wp2_with fail
          go_ret
          exact ⟨ret_bool Hv.out.symm, Hbr.out.trans (Below.mono (Below.refl _ _).drew Hbr.out.size)⟩
        · obtain rfl : x1 = y1 := by simpa using hne1
          obtain ⟨E, hE⟩ : ∃ E : Bool, E = decide (x2 = y2) := ⟨_, rfl⟩
          rw [← hE] at k1
          have Hxy := Lib.hid (fun h : E = true => hnx (by rw [h] at hE; rw [of_decide_eq_true hE.symm]))
          have Hv := Lib.hid (fun h : E = false => hno (by intro h2; cases h2; rw [h] at hE; simp at hE))
          have K1 := Lib.hid k1
          have Hbr := Lib.hid hbr
          clear hnx hno k1 hE hbr hne1
          go_upto_region 6 with fail
          refine wp_region_noPanic ?_
          refine wp_region_held_drew (S := (fun V => V.cell? ⟨b1, o1 + k * 2, none⟩ = some (.int .i64 x1) ∧ V.cell? ⟨b1, o1 + k * 2 + 1, none⟩ = some (.slice A3 n3 c3) ∧ V.cell? ⟨b2, o2 + k * 2, none⟩ = some (.int .i64 x1) ∧ V.cell? ⟨b2, o2 + k * 2 + 1, none⟩ = some (.slice A4 n4 c4))) (by kernel_rfl) ⟨u0, u1, v0, v1⟩ (fun hHeld => ?_)
          refine wpAnyH_take (i := 0) (v := .slice (some ⟨b1, o1, none⟩) m c) rfl (by kernel_rfl) (by kernel_rfl) (by kernel_rfl) (fun _ _ _ h => h) (.inl ⟨by rfl, fun V hV => by obtain ⟨c0, c1, c2, c3⟩ := hV; go_simp⟩) hHeld ?_
          try simp only [Act.put, qB, qC, qE, qF, qG]
          refine wpAnyH_take (i := 1) (v := .int .i64 (k : Int)) rfl (by kernel_rfl) (by kernel_rfl) (by kernel_rfl) (fun _ _ _ h => h) (.inl ⟨by rfl, fun V hV => by obtain ⟨c0, c1, c2, c3⟩ := hV; go_simp⟩) hHeld ?_
          try simp only [Act.put, qB, qC, qD, qE, qF, qG]
          refine wpAnyH_take (i := 2) (v := .pointer (some ⟨b1, o1 + k * 2, none⟩)) rfl (by kernel_rfl) (by kernel_rfl) (by kernel_rfl) (fun _ _ _ h => h) (.inl ⟨by rfl, fun V hV => by obtain ⟨c0, c1, c2, c3⟩ := hV; go_simp⟩) hHeld ?_
          try simp only [Act.put, qB, qC, qD, qE, qF, qG]
          refine wpAnyH_take (i := 3) (v := .pointer (some ⟨b1, o1 + k * 2, none⟩)) rfl (by kernel_rfl) (by kernel_rfl) (by kernel_rfl) (fun _ _ _ h => h) (.inl ⟨by rfl, fun V hV => by obtain ⟨c0, c1, c2, c3⟩ := hV; go_simp⟩) hHeld ?_
          try simp only [Act.put, qB, qC, qD, qE, qF, qG]
          refine wpAnyH_take (i := 4) (v := .int .i64 x1) rfl (by kernel_rfl) (by kernel_rfl) (by kernel_rfl) (fun _ _ _ h => h) (.inl ⟨by rfl, fun V hV => by obtain ⟨c0, c1, c2, c3⟩ := hV; go_simp⟩) hHeld ?_
          try simp only [Act.put, qB, qC, qD, qE, qF, qG]
          refine wpAnyH_take (i := 5) (v := .slice (some ⟨b2, o2, none⟩) m c2) rfl (by kernel_rfl) (by kernel_rfl) (by kernel_rfl) (fun _ _ _ h => h) (.inl ⟨by rfl, fun V hV => by obtain ⟨c0, c1, c2, c3⟩ := hV; go_simp⟩) hHeld ?_
          try simp only [Act.put, qB, qC, qD, qE, qF, qG]
          refine wpAnyH_take (i := 6) (v := .int .i64 (k : Int)) rfl (by kernel_rfl) (by kernel_rfl) (by kernel_rfl) (fun _ _ _ h => h) (.inl ⟨by rfl, fun V hV => by obtain ⟨c0, c1, c2, c3⟩ := hV; go_simp⟩) hHeld ?_
          try simp only [Act.put, qB, qC, qD, qE, qF, qG]
          refine wpAnyH_take (i := 7) (v := .pointer (some ⟨b2, o2 + k * 2, none⟩)) rfl (by kernel_rfl) (by kernel_rfl) (by kernel_rfl) (fun _ _ _ h => h) (.inl ⟨by rfl, fun V hV => by obtain ⟨c0, c1, c2, c3⟩ := hV; go_simp⟩) hHeld ?_
          try simp only [Act.put, qB, qC, qD, qE, qF, qG]
          refine wpAnyH_take (i := 8) (v := .pointer (some ⟨b2, o2 + k * 2, none⟩)) rfl (by kernel_rfl) (by kernel_rfl) (by kernel_rfl) (fun _ _ _ h => h) (.inl ⟨by rfl, fun V hV => by obtain ⟨c0, c1, c2, c3⟩ := hV; go_simp⟩) hHeld ?_
          try simp only [Act.put, qB, qC, qD, qE, qF, qG]
          refine wpAnyH_take (i := 9) (v := .int .i64 x1) rfl (by kernel_rfl) (by kernel_rfl) (by kernel_rfl) (fun _ _ _ h => h) (.inl ⟨by rfl, fun V hV => by obtain ⟨c0, c1, c2, c3⟩ := hV; go_simp⟩) hHeld ?_
          try simp only [Act.put, qB, qC, qD, qE, qF, qG]
          refine wpAnyH_take (i := 10) (v := .bool false) rfl (by kernel_rfl) (by kernel_rfl) (by kernel_rfl) (fun _ _ _ h => h) (.inl ⟨by rfl, fun V hV => by obtain ⟨c0, c1, c2, c3⟩ := hV; go_simp⟩) hHeld ?_
          try simp only [Act.put, qB, qC, qD, qE, qF, qG]
          refine wpAnyH_take (i := 11) (v := .bool false) rfl (by kernel_rfl) (by kernel_rfl) (by kernel_rfl) (fun _ _ _ h => h) (.inl ⟨by rfl, fun V hV => by obtain ⟨c0, c1, c2, c3⟩ := hV; go_simp⟩) hHeld ?_
          try simp only [Act.put, qB, qC, qD, qE, qF, qG]
          refine wpAnyH_take (i := 12) (v := .slice (some ⟨b1, o1, none⟩) m c) rfl (by kernel_rfl) (by kernel_rfl) (by kernel_rfl) (fun _ _ _ h => h) (.inl ⟨by rfl, fun V hV => by obtain ⟨c0, c1, c2, c3⟩ := hV; go_simp⟩) hHeld ?_
          try simp only [Act.put, qB, qC, qD, qE, qF, qG]
          refine wpAnyH_take (i := 13) (v := .int .i64 (k : Int)) rfl (by kernel_rfl) (by kernel_rfl) (by kernel_rfl) (fun _ _ _ h => h) (.inl ⟨by rfl, fun V hV => by obtain ⟨c0, c1, c2, c3⟩ := hV; go_simp⟩) hHeld ?_
          try simp only [Act.put, qB, qC, qD, qE, qF, qG]
          refine wpAnyH_take (i := 14) (v := .pointer (some ⟨b1, o1 + k * 2, none⟩)) rfl (by kernel_rfl) (by kernel_rfl) (by kernel_rfl) (fun _ _ _ h => h) (.inl ⟨by rfl, fun V hV => by obtain ⟨c0, c1, c2, c3⟩ := hV; go_simp⟩) hHeld ?_
          try simp only [Act.put, qB, qC, qD, qE, qF, qG]
          refine wpAnyH_take (i := 15) (v := .pointer (some ⟨b1, o1 + k * 2 + 1, none⟩)) rfl (by kernel_rfl) (by kernel_rfl) (by kernel_rfl) (fun _ _ _ h => h) (.inl ⟨by rfl, fun V hV => by obtain ⟨c0, c1, c2, c3⟩ := hV; go_simp⟩) hHeld ?_
          try simp only [Act.put, qB, qC, qD, qE, qF, qG]
          refine wpAnyH_take (i := 16) (v := .slice A3 n3 c3) rfl (by kernel_rfl) (by kernel_rfl) (by kernel_rfl) (fun _ _ _ h => h) (.inl ⟨by rfl, fun V hV => by obtain ⟨c0, c1, c2, c3⟩ := hV; go_simp⟩) hHeld ?_
          try simp only [Act.put, qB, qC, qD, qE, qF, qG]
          refine wpAnyH_take (i := 17) (v := .slice (some ⟨b2, o2, none⟩) m c2) rfl (by kernel_rfl) (by kernel_rfl) (by kernel_rfl) (fun _ _ _ h => h) (.inl ⟨by rfl, fun V hV => by obtain ⟨c0, c1, c2, c3⟩ := hV; go_simp⟩) hHeld ?_
          try simp only [Act.put, qB, qC, qD, qE, qF, qG]
          refine wpAnyH_take (i := 18) (v := .int .i64 (k : Int)) rfl (by kernel_rfl) (by kernel_rfl) (by kernel_rfl) (fun _ _ _ h => h) (.inl ⟨by rfl, fun V hV => by obtain ⟨c0, c1, c2, c3⟩ := hV; go_simp⟩) hHeld ?_
          try simp only [Act.put, qB, qC, qD, qE, qF, qG]
          refine wpAnyH_take (i := 19) (v := .pointer (some ⟨b2, o2 + k * 2, none⟩)) rfl (by kernel_rfl) (by kernel_rfl) (by kernel_rfl) (fun _ _ _ h => h) (.inl ⟨by rfl, fun V hV => by obtain ⟨c0, c1, c2, c3⟩ := hV; go_simp⟩) hHeld ?_
          try simp only [Act.put, qB, qC, qD, qE, qF, qG]
          refine wpAnyH_take (i := 20) (v := .pointer (some ⟨b2, o2 + k * 2 + 1, none⟩)) rfl (by kernel_rfl) (by kernel_rfl) (by kernel_rfl) (fun _ _ _ h => h) (.inl ⟨by rfl, fun V hV => by obtain ⟨c0, c1, c2, c3⟩ := hV; go_simp⟩) hHeld ?_
          try simp only [Act.put, qB, qC, qD, qE, qF, qG]
          refine wpAnyH_take (i := 21) (v := .slice A4 n4 c4) rfl (by kernel_rfl) (by kernel_rfl) (by kernel_rfl) (fun _ _ _ h => h) (.inl ⟨by rfl, fun V hV => by obtain ⟨c0, c1, c2, c3⟩ := hV; go_simp⟩) hHeld ?_
          try simp only [Act.put, qB, qC, qD, qE, qF, qG]
          refine wpAnyH_ready (rs := [22]) (by kernel_rfl) (by simp) ?_
          refine AllReadyH.cons rfl (fun K hK => ?_) AllReadyH.nil
          go_simp
          refine (K1.out _ (Below.refl _ _).drew).mono ?_
          rintro e wA ⟨rfl, hbA⟩
          have hqA : Below wr.heap.size wr wA := (Below.refl _ _).drew.trans (hbA.mono (by simp))
          refine hK.out _ _ ⟨(cellOf hqA hlt1).trans u0, (cellOf hqA hlt1).trans u1, (cellOf hqA hlt2).trans v0, (cellOf hqA hlt2).trans v1⟩ (fun hHeld => ?_)
          clear hK K
          try simp only [Act.put, qB, qC, qD, qE, qF, qG]
          refine wpAnyH_take (i := 23) (v := .bool (!E)) rfl (by kernel_rfl) (by kernel_rfl) (by kernel_rfl) (fun _ _ _ h => h) (.inl ⟨by rfl, fun V hV => by obtain ⟨c0, c1, c2, c3⟩ := hV; go_simp⟩) hHeld ?_
          try simp only [Act.put, qB, qC, qD, qE, qF, qG]
          refine wpAnyH_take (i := 24) (v := .bool (!E)) rfl (by kernel_rfl) (by kernel_rfl) (by kernel_rfl) (fun _ _ _ h => h) (.inl ⟨by rfl, fun V hV => by obtain ⟨c0, c1, c2, c3⟩ := hV; go_simp⟩) hHeld ?_
          try simp only [Act.put, qB, qC, qD, qE, qF, qG]
          refine wpAnyH_done (by kernel_rfl) ?_ _
          refine NoPanic.normal ?_
          clear hHeld
          rcases E with _ | _
          · have Hv2 := Lib.hid (Hv.out rfl)
            clear Hv Hxy K1
            go_wp2_with fail
            go_ret
            exact ⟨ret_bool Hv2.out.symm, Hbr.out.trans (hqA.mono Hbr.out.size)⟩
          · have Hxy2 := Lib.hid (Hxy.out rfl)
            clear Hv Hxy K1
            go_wp2_with fail
            go_roundw
            case rel => exact ⟨k + 1, by omega, by go_num, Hxy2.out, Hbr.out.trans (hqA.mono Hbr.out.size)⟩
            case measure => simp [RowKit.intOf]; omega
      · have hv : V = true := by
          rw [← HV.out, decide_eq_true_eq]
          have := Htk.out
          rwa [List.take_of_length_le (by rw [Hxl.out]; exact hge), List.take_of_length_le (by rw [Hyl.out]; exact hge)] at this
        have Hv := Lib.hid hv
        clear hv
        go_wp2_with fail
        go_ret
        exact ⟨ret_bool Hv.out.symm, hbr⟩
set_option maxRecDepth 100000 in
set_option maxHeartbeats 4000000 in
theorem ref16_Same (a b : CasA) (c d : CasV) (w : World) (hc : CasW w w.heap.size a c) (hd : CasW w w.heap.size b d) (ho : CasOk a c) :
    Calls Tryz.prog 9 #[a.val, b.val] w fun e w' => e = .returned (.bool (decide (c = d))) ∧ Below w.heap.size w w' := by
  have k1 := fun (W : World) (hW : Below w.heap.size w W) => ref16_maps a.Al b.Al a.nl a.cl b.nl b.cl c.lo d.lo W ((Mps.below hc.lo hW).more hW.size) ((Mps.below hd.lo hW).more hW.size) ho.nl ho.lo
  have k2 := fun (W : World) (hW : Below w.heap.size w W) => ref16_maps a.At b.At a.nt a.ct b.nt b.ct c.ti d.ti W ((Mps.below hc.ti hW).more hW.size) ((Mps.below hd.ti hW).more hW.size) ho.nt ho.ti
  have k3 := fun (W : World) (hW : Below w.heap.size w W) => ref06_Same a.Ci b.Ci a.ni a.ci b.ni b.ci a.Cb b.Cb a.nb a.cb b.nb b.cb c.ca d.ca W ((Tri.below hc.ca hW).more hW.size) ((Tri.below hd.ca hW).more hW.size) ho.ni ho.nb ho.ca
  have k4 := fun (W : World) (hW : Below w.heap.size w W) => ref06_Same a.Ii b.Ii a.mi a.di b.mi b.di a.Ib b.Ib a.mb a.db b.mb b.db c.ig d.ig W ((Tri.below hc.ig hW).more hW.size) ((Tri.below hd.ig hW).more hW.size) ho.mi ho.mb ho.ig
  rw [same_parts]
  generalize decide (c.lo = d.lo) = b1 at *
  generalize decide (c.ti = d.ti) = b2 at *
  generalize decide (c.ca = d.ca) = b3 at *
  generalize decide (c.ig = d.ig) = b4 at *
  clear hc hd ho
  obtain ⟨Al, nl, cl, At, nt, ct, Ci, ni, ci, Cb, nb, cb, Ii, mi, di, Ib, mb, db⟩ := a
  obtain ⟨Bl, pl, dl, Bt, pt, dt, Di, pi, ei, Db, pb, eb, Ji, qi, fi, Jb, qb, fb⟩ := b
  simp only [CasA.val, CasA.cs] at k1 k2 k3 k4 ⊢
  obtain ⟨W0, hW0⟩ : ∃ W0, W0 = (w.alloc (.cells #[.slice Al nl cl, .slice At nt ct, .slice Ci ni ci, .slice Cb nb cb, .slice Ii mi di, .slice Ib mb db] 29)).alloc (.cells #[.slice Bl pl dl, .slice Bt pt dt, .slice Di pi ei, .slice Db pb eb, .slice Ji qi fi, .slice Jb qb fb] 29) := ⟨_, rfl⟩
  have hbw0 : Below w.heap.size w W0 := by rw [hW0]; go_grown
  have c0 : W0.heap[w.heap.size]? = some (.cells #[.slice Al nl cl, .slice At nt ct, .slice Ci ni ci, .slice Cb nb cb, .slice Ii mi di, .slice Ib mb db] 29 (0, 0)) := by rw [hW0]; exact (heap_old (by simp)).trans (heap_new rfl)
  have c1 : W0.heap[w.heap.size + 1]? = some (.cells #[.slice Bl pl dl, .slice Bt pt dt, .slice Di pi ei, .slice Db pb eb, .slice Ji qi fi, .slice Jb qb fb] 29 (0, 0)) := by rw [hW0]; exact heap_new (by simp)
  have K1 := Lib.hid (k1 W0 hbw0)
  have K2 := Lib.hid k2
  have K3 := Lib.hid k3
  have K4 := Lib.hid k4
  have H0 := Lib.hid c0
  have H1 := Lib.hid c1
  have Hbw := Lib.hid hbw0
  have l0 := (Array.getElem?_eq_some_iff.1 c0).1
  have l1 := (Array.getElem?_eq_some_iff.1 c1).1
  clear k1 k2 k3 k4 c0 c1 hbw0
  obtain ⟨e0, e1, e2, e3, e4, e5⟩ := cells6 H0.out
  obtain ⟨f0, f1, f2, f3, f4, f5⟩ := cells6 H1.out
  go_enter Tryz.func9, Tryz.ntmps9
  go_upto_region 1 with fail
  rw [← hW0]
  clear hW0
  go_wp2_with fail
  refine K1.out.mono ?_
  clear e0 e1 e2 e3 e4 e5 f0 f1 f2 f3 f4 f5
  rintro e w1 ⟨rfl, hb1⟩
  have hbw1 := Hbw.out.trans (hb1.mono Hbw.out.size)
  obtain ⟨e0, e1, e2, e3, e4, e5⟩ := cells6 ((hb1.block _ l0).trans H0.out)
  obtain ⟨f0, f1, f2, f3, f4, f5⟩ := cells6 ((hb1.block _ l1).trans H1.out)
  rcases b1 with _ | _
  · go_wp2_with fail
    go_ret
    exact ⟨by simp, hbw1⟩
  have Hk2 := Lib.hid (K2.out w1 hbw1)
  go_wp2_with fail
  refine Hk2.out.mono ?_
  clear e0 e1 e2 e3 e4 e5 f0 f1 f2 f3 f4 f5
  rintro e w2 ⟨rfl, hb2⟩
  have hbw2 := hbw1.trans (hb2.mono hbw1.size)
  have hb12 := hb1.trans (hb2.mono hb1.size)
  obtain ⟨e0, e1, e2, e3, e4, e5⟩ := cells6 ((hb12.block _ l0).trans H0.out)
  obtain ⟨f0, f1, f2, f3, f4, f5⟩ := cells6 ((hb12.block _ l1).trans H1.out)
  rcases b2 with _ | _
  · go_wp2_with fail
    go_ret
    exact ⟨by simp, hbw2⟩
  have Hk3 := Lib.hid (K3.out w2 hbw2)
  go_wp2_with fail
  refine Hk3.out.mono ?_
  clear e0 e1 e2 e3 e4 e5 f0 f1 f2 f3 f4 f5
  rintro e w3 ⟨rfl, hb3⟩
  have hbw3 := hbw2.trans (hb3.mono hbw2.size)
  have hb13 := hb12.trans (hb3.mono hb12.size)
  obtain ⟨e0, e1, e2, e3, e4, e5⟩ := cells6 ((hb13.block _ l0).trans H0.out)
  obtain ⟨f0, f1, f2, f3, f4, f5⟩ := cells6 ((hb13.block _ l1).trans H1.out)
  rcases b3 with _ | _
  · go_wp2_with fail
    go_ret
    exact ⟨by simp, hbw3⟩
  have Hk4 := Lib.hid (K4.out w3 hbw3)
  go_wp2_with fail
  refine Hk4.out.mono ?_
  rintro e w4 ⟨rfl, hb4⟩
  go_wp2_with fail
  go_ret
  exact ⟨by simp, hbw3.trans (hb4.mono hbw3.size)⟩
end Go.Vir


namespace Go.Vir
open Go

structure Frm (ρ : Operand → Value) : Prop where
  con : ∀ c, ρ (.const c) = c
  glo : ∀ g, ρ (.global g) = .pointer (some ⟨g, 0, none⟩)
  fn : ∀ f, ρ (.func f) = .func (.func f) #[] #[]
theorem Frm.act (a : Act) : Frm a.eval := ⟨fun _ => rfl, fun _ => rfl, fun _ => rfl⟩

theorem put_laws : (∀ (a : Act) (d : Tmp) (v : Value), a.put (some d) v = ⟨a.tmps.setIfInBounds d v, a.defers⟩) ∧ (∀ (l : List Oper) (i : Nat) (h : i < l.toArray.size), l.toArray[i] = l[i]'h) ∧ (∀ (x : Oper) (l : List Oper) (h : 0 < (x :: l).length), (x :: l)[0] = x)
    ∧ (∀ (x : Oper) (l : List Oper) (i : Nat) (h : i + 1 < (x :: l).length), (x :: l)[i + 1] = l[i]'(Nat.lt_of_succ_lt_succ h)) ∧ (∀ (l : List Value) (i : Nat) (v : Value), l.toArray.setIfInBounds i v = (l.set i v).toArray)
    ∧ (∀ (x : Value) (l : List Value) (v : Value), (x :: l).set 0 v = v :: l) ∧ (∀ (x : Value) (l : List Value) (i : Nat) (v : Value), (x :: l).set (i + 1) v = x :: l.set i v) :=
  ⟨fun _ _ _ => rfl, fun _ _ _ => List.getElem_toArray _, fun _ _ _ => rfl, fun _ _ _ _ => rfl, fun _ _ _ => List.setIfInBounds_toArray .., fun _ _ _ => rfl, fun _ _ _ _ => rfl⟩

section
variable {P : Program} {md : Region.Mode} {ops : Array Oper} {Q : Exit → Act → World → Prop} {S : World → Prop} {fuel i : Nat} {listed : Array Bool} {a : Act} {w : World} {o : Oper}

def npOk (md : Region.Mode) (ops : Array Oper) (listed : Array Bool) (i : Nat) (o : Oper) (a : Act) (yes : Bool) : Bool :=
  (Region.noSelect ops && Region.free md ops listed i) && ((Region.ready md ops listed).contains i && (Region.wanted o (yielded ops a.tmps) == yes))
def npOne (md : Region.Mode) (ops : Array Oper) (listed : Array Bool) (i : Nat) (o : Oper) (a : Act) : Bool :=
  decide (Region.ready md ops listed = [i]) && Region.wanted o (yielded ops a.tmps)

theorem np_take (v : Value) (ho : ops[i]? = some o) (hk : npOk md ops listed i o a true = true) (hS : S w) (hy : ∀ V, S V → (execOp a.eval o).run P V = .ok (.value v) V)
    (h : wpAnyH P md ops (NoPanic Q) S fuel (listed.setIfInBounds i true) (a.put o.dst v) w) : wpAnyH P md ops (NoPanic Q) S (fuel + 1) listed a w := by
  unfold npOk at hk
  simp only [Bool.and_eq_true] at hk
  exact wpAnyH_take ho hk.1.1 hk.1.2 hk.2.1 (fun _ _ _ h => h) (.inl ⟨by simpa using hk.2.2, hy⟩) hS h
theorem np_one (ho : ops[i]? = some o) (hk : npOne md ops listed i o a = true) (h : ∀ K' : Act → World → Prop, (∀ b v, S v → wpAnyH P md ops (NoPanic Q) S fuel (listed.setIfInBounds i true) b v → K' b v) → Oper.wp P o a w K' (NoPanic Q)) :
    wpAnyH P md ops (NoPanic Q) S (fuel + 1) listed a w := by
  unfold npOne at hk
  simp only [Bool.and_eq_true, decide_eq_true_eq] at hk
  refine wpAnyH_ready hk.1 (by simp) (AllReadyH.cons ho (fun K hK => ?_) AllReadyH.nil)
  rw [if_pos hk.2]
  exact h K (fun b v hs hw => hK.out b v hs (fun _ => hw))
theorem np_call {f : FuncId} {args : Array Value} (ho : ops[i]? = some o) (hk : npOne md ops listed i o a = true) (hS : S w) (hy : ∀ V, S V → (execOp a.eval o).run P V = .ok (.enter f args) V)
    (h : Calls P f args w fun e w' => ∃ v, e = .returned v ∧ S w' ∧ (S w' → wpAnyH P md ops (NoPanic Q) S fuel (listed.setIfInBounds i true) (a.put o.dst v) w')) : wpAnyH P md ops (NoPanic Q) S (fuel + 1) listed a w := by
  refine np_one ho hk fun K hK => ?_
  unfold Oper.wp
  rw [hy w hS, Oper.upon_enter]
  refine h.mono fun e w' he => ?_
  obtain ⟨v, rfl, h1, h2⟩ := he
  exact hK _ _ h1 (h2 h1)
theorem np_done (hr : Region.ready md ops listed = []) (h : Q .normal a w) : wpAnyH P md ops (NoPanic Q) S fuel listed a w := wpAnyH_done hr (NoPanic.normal h) _
theorem np_fin {s : Nat} {V : Value} (hr : Region.ready md ops listed = []) (hv : a.tmps.getD s undef = V) (hd : a.defers = []) (h : ∀ b : Act, b.tmps.getD s undef = V → b.defers = [] → Q .normal b w) : wpAnyH P md ops (NoPanic Q) S fuel listed a w := np_done hr (h a hv hd)
theorem np_start {id : Nat} (hm : P.follows .mixedOrders = true) (hS : S w.drew) (h : S w.drew → wpAnyH P .any ops (NoPanic Q) S ops.size (Array.replicate ops.size false) a w.drew) : (Code.region id ops true).wp P Q a w :=
  wp_region_noPanic (wp_region_held_drew hm hS h)

variable {r : World → Result Next}
theorem fr1 (s : Tmp) (u : Value) (hs : [a.eval (.tmp s)] = [u]) (h : ∀ ρ : Operand → Value, Frm ρ → ρ (.tmp s) = u → ∀ V, S V → (execOp ρ o).run P V = r V) :
    ∀ V, S V → (execOp a.eval o).run P V = r V := by
  simp only [List.cons.injEq, and_true] at hs
  exact h _ (Frm.act a) hs
theorem fr2 (s1 s2 : Tmp) (u1 u2 : Value) (hs : [a.eval (.tmp s1), a.eval (.tmp s2)] = [u1, u2]) (h : ∀ ρ : Operand → Value, Frm ρ → ρ (.tmp s1) = u1 → ρ (.tmp s2) = u2 → ∀ V, S V → (execOp ρ o).run P V = r V) :
    ∀ V, S V → (execOp a.eval o).run P V = r V := by
  simp only [List.cons.injEq, and_true] at hs
  exact h _ (Frm.act a) hs.1 hs.2
end
end Go.Vir


namespace Go.Vir
open Go Go.RowKit Go.Proofs Go.ChangeShapes Go.WideShapes Go.ChangeAt Go.Proofs.YtkkpkcnlocmnhaaGreatDoor

theorem returns_shaped {H : Type} {enc : TypeId × Value → H} {a : Assume} {C : Checked} {os : Os} {f : FuncId} {fn : Func} {s : ChangeSpec} {conds : List PathCond} {apart fresh handsOn again : Bool} {X : World → Array Value → Prop}
    (hX : ∀ (w w' : World) (args : Array Value), w.heap = w'.heap → X w args → X w' args)
    (own : ownKnob C.prog.godebug = none) (started : os.Started) (noInit : C.prog.inits.idxOf? f = none) (hfn : C.prog.funcs[f]? = some fn)
    (witness : ∃ (w : World) (tape : Tape) (i : Input), w.os = os ∧ (w.forCall tape i).Shaped C.prog ∧ i.vars = [] ∧ Input.okWide C.prog (w.forCall tape i) .any w.heap.size f i ∧
      ((s.pre enc C.prog fn conds apart (w.forCall tape i).memory i.args ∧ X (w.forCall tape i).memory i.args) ∧ sizedMet enc C.prog fn (OpenSpec.ofChange s) apart (w.forCall tape i).memory i.args) ∧ a.holds C.prog (lone (Frame.enter C.prog f i.args .normal) [] (w.forCall tape i)))
    (contract : ∀ (W : World) (base : Nat) (args : Array Value) (ds gs : List (DataW H)) (before : List MemPlace),
      (∀ (j : Nat) t v, fn.params[j]? = some t → args[j]? = some v → Value.okWide C.prog W .any base t v) →
      DataW.Whole enc C.prog fn.params.toList s.vars apart W args.toList ds gs before →
      W.ShapedOpen C.prog → X W args →
      Calls C.prog f args W fun e W' => ∃ v, e = .returned v ∧ s.post enc C.prog fn apart fresh handsOn again W args v W') :
    ReturnsInHanded a C os f .any (fun w args => (s.pre enc C.prog fn conds apart w args ∧ X w args) ∧ sizedMet enc C.prog fn (OpenSpec.ofChange s) apart w args) (s.post enc C.prog fn apart fresh handsOn again) := by
  refine returnsInHanded_of_calls own started noInit witness ?_
  intro w tape i _ hsh _ hok hpre hholds
  obtain ⟨_, _, _, fn', hfn', _, _, _, _, hval⟩ := hok
  have e : fn' = fn := Option.some.inj (hfn'.symm.trans hfn)
  subst e
  obtain ⟨⟨⟨ds, gs, before, hw, hc⟩, hx⟩, hz⟩ := hpre
  have hw' := DataW.Whole.of_heap (w' := w.forCall tape i) (by rfl) hw
  refine (contract (w.forCall tape i) w.heap.size i.args ds gs before hval hw' hsh (hX _ _ _ (by rfl) hx)).mono fun e W' ⟨v, he, hp⟩ => ?_
  subst he
  exact ChangeSpec.post_blind hp

theorem own : ownKnob Tryz.prog.godebug = none := by kernel_rfl
theorem laidOut : laidOutB Tryz.prog = true := by kernel_rfl
theorem gErr : Tryz.prog.globalNamed "errors.errorType" = some 0 := by kernel_rfl
theorem rtypeOne : (Tryz.prog.cutTypes.find? (·.1 == "internal/reflectlite.rtype")).map (·.2) = some 159 := by kernel_rfl
theorem errorOne : ((List.range Tryz.prog.types.size).filter fun t => Tryz.prog.rowNamed t [101, 114, 114, 111, 114]) = [50] := by kernel_rfl
theorem errHandle : typeHandle Tryz.prog 50 = .pointer (some ⟨7, 50, none⟩) := by kernel_rfl
theorem star_err : "*" ++ "errors.errorString" = "*errors.errorString" := by decide
theorem rowErr (u : TypeId) (h : Tryz.prog.typeName? 3 u = some "*errors.errorString") : u = 333 :=
  typeName_ptr_named (nm := "errors.errorString") (by rw [star_err]; kernel_rfl) (by kernel_rfl) (by decide) u (by rw [star_err]; exact h)
theorem cellsEs : Tryz.prog.cellsOf 354 = 1 := by kernel_rfl
theorem cellsStr : Tryz.prog.cellsOf 9 = 1 := by kernel_rfl

theorem mlen_of_shaped {W : World} (h : W.ShapedOpen Tryz.prog) : ∃ m, W.cell? ⟨4, 0, none⟩ = some (.int .i64 m) :=
  cell_of_shapedOpen_int (t := 3) (zero := #[.int .i64 0]) h (by decide +kernel) (by kernel_rfl) rfl (by kernel_rfl) (by kernel_rfl) (by kernel_rfl)

theorem size_of_shaped {W : World} (h : W.ShapedOpen Tryz.prog) : 7 ≤ W.heap.size := by
  have h0 : (((begin Tryz.prog (fun _ _ => 0) default).world.heap[7 - 1]?).bind Obj.row?).isSome = true := by kernel_rfl
  obtain ⟨⟨z, t⟩, hz⟩ := Option.isSome_iff_exists.1 h0
  obtain ⟨cs, hh, _, _⟩ := h.1 (7 - 1) z t (by decide +kernel) hz
  have := (Array.getElem?_eq_some_iff.1 hh).1
  omega

noncomputable def world0 (os : Os) : World :=
  let w0 := World.holding Tryz.prog os ⟨#[], #[], []⟩
  { w0 with heap := w0.heap.modify 0 fun
      | .cells _ t frozen => .cells #[.iface 159 (.agg #[.pointer (some ⟨7, 50, none⟩)])] t frozen
      | o => o }
end Go.Vir


namespace Go.Vir
open Go Go.RowKit Go.Proofs Go.ChangeShapes Go.WideShapes Go.ChangeAt Go.Proofs.YtkkpkcnlocmnhaaGreatDoor

theorem gPrf : Tryz.prog.globalNamed "virama/prop.errFile" = some 2 := by kernel_rfl
theorem tPrf : (Tryz.prog.globals[2]?).map (·.type) = some 50 := by kernel_rfl
end Go.Vir


namespace Go.Vir
open Go Go.RowKit Go.Proofs Go.ChangeShapes Go.WideShapes Go.ChangeAt

theorem list_of_each {α : Type} {Q : Nat → α → Prop} : ∀ (n : Nat), (∀ i, i < n → ∃ x, Q i x) → ∃ l : List α, l.length = n ∧ ∀ i (h : i < l.length), Q i l[i]
  | 0, _ => ⟨[], rfl, fun i h => absurd h (by simp)⟩
  | n + 1, h => by
    obtain ⟨l, hl, hq⟩ := list_of_each n (fun i hi => h i (by omega))
    obtain ⟨x, hx⟩ := h n (by omega)
    refine ⟨l ++ [x], by simp [hl], fun i hi => ?_⟩
    rcases Nat.lt_or_ge i n with h1 | h1
    · rw [List.getElem_append_left (by omega)]; exact hq i (by omega)
    · have : i = n := by simp [hl] at hi; omega
      subst this
      rw [List.getElem_append_right (by omega)]
      simpa [hl] using hx

theorem cells_two {W : World} {a : Addr} {cs : List Value} (h : W.cells? 0 a 2 = some cs) : ∃ x y, cs = [x, y] ∧ W.cell? a = some x ∧ W.cell? (a.add 1) = some y := by
  unfold World.cells? at h
  have e0 : a.add 0 = a := by simp [Addr.add]
  split at h
  · simp only [List.range_succ, List.range_zero, List.nil_append, List.cons_append, List.mapM_cons, List.mapM_nil, e0] at h
    cases h0 : W.cell? a with
    | none => simp [h0] at h
    | some x =>
      cases h1 : W.cell? (a.add 1) with
      | none => simp [h0, h1] at h
      | some y => simp [h0, h1] at h; exact ⟨x, y, h.symm, rfl, rfl⟩
  · cases h

theorem ints_opened {W : World} {a : Addr} {len cap : Nat} {zs : List Int} (hl : len ≤ cap) (hz : zs.length = cap)
    (hc : ∀ i, i < zs.length → W.cell? (a.add i) = some (.int .i64 (zs.getD i 0))) : Ints W W.heap.size (some a) len (zs.take len) := by
  have hlen : (zs.take len).length = len := by simp; omega
  refine ⟨hlen, fun h0 => ?_⟩
  obtain ⟨b, o, sp⟩ := a
  have h1 := hc 0 (by omega)
  have hsp : sp = none := by
    cases sp with
    | none => rfl
    | some x => 
      simp only [Addr.add, if_pos, World.cell?] at h1
      split at h1 <;> simp at h1
  subst hsp
  have hb : b < W.heap.size := by
    rcases Nat.lt_or_ge b W.heap.size with h | h
    · exact h
    · simp [World.cell?, Addr.add, Array.getElem?_eq_none h] at h1
  refine ⟨b, o, rfl, hb, fun j hj => ?_⟩
  have hj2 : j < zs.length := by omega
  have h2 := hc j hj2
  have e : (Addr.add ⟨b, o, none⟩ j) = ⟨b, o + j, none⟩ := by
    unfold Addr.add
    split <;> simp_all
  rw [e] at h2
  rw [h2]
  simp [List.getD, hj2]

end Go.Vir


namespace Go.Vir
open Go Go.RowKit Go.Proofs Go.ChangeShapes Go.WideShapes Go.ChangeAt Go.Proofs.YtkkpkcnlocmnhaaGreatDoor

def laidF : List (String × DataW Unit) := [("unicode/utf8.acceptRanges", Rows.laid_unicode_utf8_acceptRanges), ("errors.errorType", Rows.laid_errors_errorType), ("virama/prop.errFile", Rows.laid_virama_prop_errFile), ("virama/trie.errTrie", Rows.laid_virama_trie_errTrie), ("virama/trie.errRange", Rows.laid_virama_trie_errRange), ("unicode/utf8.first", Rows.laid_unicode_utf8_first)]
def laidE : List (String × DataW Unit) := [("unicode/utf8.acceptRanges", Rows.laid_unicode_utf8_acceptRanges), ("virama/prop.errFile", Rows.laid_virama_prop_errFile), ("virama/trie.errTrie", Rows.laid_virama_trie_errTrie), ("virama/trie.errRange", Rows.laid_virama_trie_errRange), ("unicode/utf8.first", Rows.laid_unicode_utf8_first)]
theorem laidF_split : (laidF.filter fun x => x.2.handleName?.isNone) = laidE := by rfl
theorem laidF_hand : (laidF.filter fun x => x.2.handleName?.isSome) = [("errors.errorType", Rows.laid_errors_errorType)] := by rfl

set_option maxRecDepth 100000 in
set_option maxHeartbeats 2000000 in
theorem globF_of_laid {W : World} (hs : W.ShapedOpen Tryz.prog) (h : laidMetH Tryz.prog laidF W) : GlobP W := by
  unfold laidMetH at h
  rw [laidF_split, laidF_hand] at h
  obtain ⟨⟨ps, ⟨g0, t0, cs0, f0, p0, q0, hg0, ht0, hv0, hd0, ⟨g1, t1, cs1, f1, p1, q1, hg1, ht1, hv1, hd1, hrest, e1⟩, e0⟩, _, hrows⟩, hh⟩ := h
  obtain rfl := Option.some.inj (gPrf.symm.trans hg1)
  obtain rfl := Option.some.inj (tPrf.symm.trans ht1)
  obtain ⟨name, u, ty, n1, n2, n3, n4, n5⟩ := hh _ (List.mem_singleton.2 rfl)
  have en : name = [101, 114, 114, 111, 114] := (Option.some.inj n1).symm
  subst en
  obtain rfl := Option.some.inj (rtypeOne.symm.trans n2)
  have hm : ty ∈ (List.range Tryz.prog.types.size).filter fun t => Tryz.prog.rowNamed t [101, 114, 114, 111, 114] := List.mem_filter.2 ⟨List.mem_range.2 n3, n4⟩
  rw [errorOne] at hm
  obtain rfl := List.mem_singleton.1 hm
  rw [errHandle] at n5
  obtain ⟨l1⟩ := cs1
  subst e1
  subst e0
  have ok1 : ∀ u v, l1 = [.iface u v] → Value.okWide Tryz.prog W .any 0 u v := fun u v e => by
    subst e
    exact (hrows 2 0 (by simp [MemPlace.row])).2 u v (by simpa using World.var?_cell hg1 hv1 0)
  obtain ⟨a1, s1, rfl, _, _, _, rfl⟩ := errorString_of_trod Tryz.underlying50 rowErr Tryz.underlying333 Tryz.underlying354 rfl rfl Tryz.underlying9 cellsEs cellsStr hd1 ok1
  have hsz := size_of_shaped hs
  exact ⟨⟨mlen_of_shaped hs, Nat.lt_of_lt_of_le (by decide) hsz, by simpa using World.var?_cell gErr n5 0, Nat.lt_of_lt_of_le (by decide) hsz⟩, ⟨_, by simpa using World.var?_cell gPrf hv1 0⟩, Nat.lt_of_lt_of_le (by decide) hsz⟩

noncomputable def worldF (os : Os) : World := (world0 os).layVars Tryz.prog laidE
theorem worldF_os (os : Os) : (worldF os).os = os := World.layVars_os _ _ _
theorem worldF_metE (os : Os) (args : Array Value) : laidMet Tryz.prog laidE ((worldF os).forCall (fun _ _ => 0) ⟨#[], args, []⟩).memory := by
  have h : laidMet Tryz.prog laidE (worldF os) := laidMet_layVars (w0 := world0 os) (laidE.map (·.1)) [] (by rfl) (by kernel_rfl) (by kernel_rfl) LaidIn.none
  exact h.of_heap (by simp [World.memory, World.forCall, Input.heap])
theorem worldF_met (os : Os) (args : Array Value) : laidMetH Tryz.prog laidF ((worldF os).forCall (fun _ _ => 0) ⟨#[], args, []⟩).memory :=
  laidMetH_of_parts (by rw [laidF_split]; exact worldF_metE os args) (by kernel_rfl)
theorem worldF_shaped (os : Os) : (worldF os).Shaped Tryz.prog := World.shaped_of_ZipB (by kernel_rfl) (by kernel_rfl)
end Go.Vir


namespace Go.Vir
open Go Go.RowKit Go.Proofs Go.ChangeShapes Go.WideShapes Go.ChangeAt Go.Joins

theorem cells_one {W : World} {a : Addr} {cs : List Value} (h : W.cells? 0 a 1 = some cs) : ∃ x, cs = [x] ∧ W.cell? a = some x := by
  unfold World.cells? at h
  have e0 : a.add 0 = a := by simp [Addr.add]
  split at h
  · simp only [List.range_succ, List.range_zero, List.nil_append, List.mapM_cons, List.mapM_nil, e0] at h
    rcases h0 : W.cell? a with _ | x0
    · simp [h0] at h
    · simp [h0] at h
      exact ⟨x0, h.symm, rfl⟩
  · cases h
set_option maxRecDepth 100000 in
theorem ints_cell {H : Type} {enc : TypeId × Value → H} {W : World} {x : Value} {fuel : Nat} {y : DataW H × List MemPlace} (h : DataW.trod enc Tryz.prog W 0 (fun _ => true) true fuel 24 [x] = some y) :
    ∃ A n c l, x = .slice A n c ∧ n ≤ c ∧ n ≤ 9223372036854775807 ∧ Ints W W.heap.size A n l := by
  obtain ⟨d, p⟩ := y
  rcases open_ints Tryz.underlying24 Tryz.underlying3 (by kernel_rfl) h with ⟨hcs, hx⟩ | ⟨a, len', cap', zs, hcs, _, hl, hmx, hz, hx, hcell, _⟩
  · obtain rfl : x = .slice none 0 0 := by simpa using hcs
    exact ⟨_, _, _, [], rfl, Nat.le_refl _, by omega, Ints.nil _ _ _⟩
  · obtain rfl : x = .slice (some a) len' cap' := by simpa using hcs
    unfold maxLen at hmx
    exact ⟨_, _, _, _, rfl, hl, by omega, ints_opened hl (by simpa using hz) hcell⟩
set_option maxRecDepth 100000 in
theorem trie_cells {H : Type} {enc : TypeId × Value → H} {W : World} {x0 x1 : Value} {fuel : Nat} {y : DataW H × List MemPlace} (hf : DataW.trod enc Tryz.prog W 0 (fun _ => true) true fuel 27 [x0, x1] = some y) :
    ∃ Ai ni ci Ab nb cb T, x0 = .slice Ai ni ci ∧ x1 = .slice Ab nb cb ∧ ni ≤ ci ∧ ni ≤ 9223372036854775807 ∧ nb ≤ 9223372036854775807 ∧ (∀ b ∈ T.bl, b.length ≤ 9223372036854775807) ∧ Tri W W.heap.size Ai ni Ab nb T := by
  have ci1 : Tryz.prog.cellsOf 24 = 1 := by kernel_rfl
  have cii : Tryz.prog.cellsOf 25 = 1 := by kernel_rfl
  obtain ⟨z0, z1, n2, _, _, k0, k1⟩ := trod_struct2 Tryz.underlying27 hf
  have k0' : DataW.trod enc Tryz.prog W 0 (fun _ => true) true n2 24 [x0] = some z0 := by
    have := k0
    simp only [ci1] at this
    exact this
  have k1' : DataW.trod enc Tryz.prog W 0 (fun _ => true) true n2 25 [x1] = some z1 := by
    have := k1
    simp only [cii] at this
    exact this
  obtain ⟨Ai, ni, ci, l, rfl, hic, hni, hI⟩ := ints_cell k0'
  rcases DataW.trod_slice Tryz.underlying25 k1' with ⟨e1, _⟩ | ⟨a, len, cap, elems, rest, n', _, e1, _, _, hlc, hmx, hlen, hel, _, _⟩
  · obtain rfl : x1 = .slice none 0 0 := by simpa using e1
    exact ⟨Ai, ni, ci, none, 0, 0, { ix := l, bl := [] }, rfl, rfl, hic, hni, by omega, by simp, hI, Intss.nil _ _ _⟩
  · obtain rfl : x1 = .slice (some a) len cap := by simpa using e1
    have each : ∀ i, i < len → ∃ b : List Int, ∃ A' n' c', W.cell? (a.add i) = some (.slice A' n' c') ∧ n' ≤ c' ∧ b.length ≤ 9223372036854775807 ∧ Ints W W.heap.size A' n' b := by
      intro i hi
      have h2 := hel i hi
      rw [ci1, Nat.mul_one, List.getElem?_eq_getElem (by omega)] at h2
      obtain ⟨cs2, hc2, h3⟩ := Option.bind_eq_some_iff.1 h2
      obtain ⟨x, rfl, hx⟩ := cells_one hc2
      obtain ⟨A', m, c', b, rfl, q1, q2, q3⟩ := ints_cell h3
      exact ⟨b, A', m, c', hx, q1, by rw [q3.len]; exact q2, q3⟩
    obtain ⟨bs, hbl, hbs⟩ := list_of_each len each
    unfold maxLen at hmx
    refine ⟨Ai, ni, ci, some a, len, cap, { ix := l, bl := bs }, rfl, rfl, hic, hni, by omega, fun b hb => ?_, hI, hbl, fun hpos => ?_⟩
    · obtain ⟨i, hi, rfl⟩ := List.getElem_of_mem hb
      obtain ⟨_, _, _, _, _, q, _⟩ := hbs i hi
      exact q
    · obtain ⟨b, o, sp⟩ := a
      obtain ⟨A', m, c', hsp, _⟩ := hbs 0 (by omega)
      have hs2 : sp = none := by
        cases sp with
        | none => rfl
        | some q =>
          simp only [Addr.add, if_pos, World.cell?] at hsp
          split at hsp <;> simp at hsp
      subst hs2
      have hb : b < W.heap.size := by
        rcases Nat.lt_or_ge b W.heap.size with hh | hh
        · exact hh
        · simp [World.cell?, Addr.add, Array.getElem?_eq_none hh] at hsp
      refine ⟨b, o, rfl, hb, fun j hj => ?_⟩
      have hadd : ∀ o k, (Addr.add ⟨b, o, none⟩ k) = ⟨b, o + k, none⟩ := fun o k => by
        unfold Addr.add
        split <;> simp_all
      obtain ⟨A', m, c', k0, k1, _, k3⟩ := hbs j hj
      rw [hadd] at k0
      exact ⟨A', m, c', k0, k3, k1⟩
set_option maxRecDepth 100000 in
theorem mps_cell {H : Type} {enc : TypeId × Value → H} {W : World} {x : Value} {fuel : Nat} {y : DataW H × List MemPlace} (h : DataW.trod enc Tryz.prog W 0 (fun _ => true) true fuel 23 [x] = some y) :
    ∃ A n c l, x = .slice A n c ∧ n ≤ 9223372036854775807 ∧ (∀ z ∈ l, z.ts.length ≤ 9223372036854775807) ∧ Mps W W.heap.size A n l := by
  have c2 : Tryz.prog.cellsOf 68 = 2 := by kernel_rfl
  have ci1 : Tryz.prog.cellsOf 3 = 1 := by kernel_rfl
  have cii : Tryz.prog.cellsOf 24 = 1 := by kernel_rfl
  rcases DataW.trod_slice Tryz.underlying23 h with ⟨e1, _⟩ | ⟨a, len, cap, elems, rest, n', _, e1, _, _, hlc, hmx, hlen, hel, _, _⟩
  · obtain rfl : x = .slice none 0 0 := by simpa using e1
    exact ⟨none, 0, 0, [], rfl, by omega, by simp, Mps.nil _ _ _⟩
  · obtain rfl : x = .slice (some a) len cap := by simpa using e1
    have each : ∀ i, i < len → ∃ z : MpV, ∃ A' n' c', W.cell? (a.add (i * 2)) = some (.int .i64 z.f) ∧ W.cell? ((a.add (i * 2)).add 1) = some (.slice A' n' c') ∧ n' ≤ c' ∧ z.ts.length ≤ 9223372036854775807 ∧ Ints W W.heap.size A' n' z.ts := by
      intro i hi
      have h2 := hel i hi
      rw [c2, List.getElem?_eq_getElem (by omega)] at h2
      obtain ⟨cs2, hc2, h3⟩ := Option.bind_eq_some_iff.1 h2
      obtain ⟨x0, x1, rfl, hx0, hx1⟩ := cells_two hc2
      obtain ⟨z0, z1, n2, _, _, k0, k1⟩ := trod_struct2 Tryz.underlying68 h3
      have k0' : DataW.trod enc Tryz.prog W 0 (fun _ => true) true n2 3 [x0] = some z0 := by
        have := k0
        simp only [ci1] at this
        exact this
      have k1' : DataW.trod enc Tryz.prog W 0 (fun _ => true) true n2 24 [x1] = some z1 := by
        have := k1
        simp only [cii] at this
        exact this
      obtain ⟨f, e0, _⟩ := DataW.trod_int Tryz.underlying3 k0'
      obtain rfl : x0 = .int .i64 f := by simpa using e0
      obtain ⟨A', m, c', b, rfl, q1, q2, q3⟩ := ints_cell k1'
      exact ⟨{ f := f, ts := b }, A', m, c', hx0, hx1, q1, by rw [q3.len]; exact q2, q3⟩
    obtain ⟨bs, hbl, hbs⟩ := list_of_each len each
    unfold maxLen at hmx
    refine ⟨some a, len, cap, bs, rfl, by omega, fun b hb => ?_, hbl, fun hpos => ?_⟩
    · obtain ⟨i, hi, rfl⟩ := List.getElem_of_mem hb
      obtain ⟨_, _, _, _, _, _, q, _⟩ := hbs i hi
      exact q
    · obtain ⟨b, o, sp⟩ := a
      obtain ⟨A', m, c', hsp, _⟩ := hbs 0 (by omega)
      have hs2 : sp = none := by
        cases sp with
        | none => rfl
        | some q =>
          simp only [Addr.add, if_pos, World.cell?] at hsp
          split at hsp <;> simp at hsp
      subst hs2
      have hb : b < W.heap.size := by
        rcases Nat.lt_or_ge b W.heap.size with hh | hh
        · exact hh
        · simp [World.cell?, Addr.add, Array.getElem?_eq_none hh] at hsp
      refine ⟨b, o, rfl, hb, fun j hj => ?_⟩
      have hadd : ∀ o k, (Addr.add ⟨b, o, none⟩ k) = ⟨b, o + k, none⟩ := fun o k => by
        unfold Addr.add
        split <;> simp_all
      obtain ⟨A', m, c', k0, k1, k2, _, k3⟩ := hbs j hj
      rw [hadd] at k0 k1
      rw [hadd] at k1
      exact ⟨A', m, c', k0, k1, k3, k2⟩
set_option maxRecDepth 100000 in
theorem open_cases {H : Type} {enc : TypeId × Value → H} {W : World} {base : Nat} {v : Value} {d : DataW H} {p : List MemPlace}
    (hval : Value.okWide Tryz.prog W .any base 29 v) (h : DataW.Trod enc Tryz.prog W 0 (fun _ => true) true 29 v d p) :
    ∃ a c, v = a.val ∧ CasW W W.heap.size a c ∧ CasS a c := by
  unfold Value.okWide at hval
  simp only [Tryz.underlying29] at hval
  obtain ⟨cs, rfl, hsz, _⟩ := hval
  obtain ⟨fuel, hf⟩ := h
  obtain ⟨y0, y1, y2, y3, n, hx, hl, h0, h1, h2, h3⟩ := trod_struct4 Tryz.underlying29 hf
  have c6 : Tryz.prog.cellsOf 29 = 6 := by kernel_rfl
  have c2 : Tryz.prog.cellsOf 27 = 2 := by kernel_rfl
  have cm1 : Tryz.prog.cellsOf 23 = 1 := by kernel_rfl
  rw [c6] at hsz
  have hcs : cs = #[cs[0], cs[1], cs[2], cs[3], cs[4], cs[5]] := by
    apply Array.ext
    · simpa using hsz
    · intro i h1 h2
      match i, h2 with
      | 0, _ => rfl
      | 1, _ => rfl
      | 2, _ => rfl
      | 3, _ => rfl
      | 4, _ => rfl
      | 5, _ => rfl
  generalize cs[0] = x0 at hcs
  generalize cs[1] = x1 at hcs
  generalize cs[2] = x2 at hcs
  generalize cs[3] = x3 at hcs
  generalize cs[4] = x4 at hcs
  generalize cs[5] = x5 at hcs
  subst hcs
  clear hsz hl hf hx
  have h0' : DataW.trod enc Tryz.prog W 0 (fun _ => true) true n 23 [x0] = some y0 := by
    have := h0
    simp only [Value.cells, cm1] at this
    exact this
  have h1' : DataW.trod enc Tryz.prog W 0 (fun _ => true) true n 23 [x1] = some y1 := by
    have := h1
    simp only [Value.cells, cm1] at this
    exact this
  have h2' : DataW.trod enc Tryz.prog W 0 (fun _ => true) true n 27 [x2, x3] = some y2 := by
    have := h2
    simp only [Value.cells, c2] at this
    exact this
  have h3' : DataW.trod enc Tryz.prog W 0 (fun _ => true) true n 27 [x4, x5] = some y3 := by
    have := h3
    simp only [Value.cells, c2] at this
    exact this
  obtain ⟨Al, nl, cl, lo, rfl, a1, a2, a3⟩ := mps_cell h0'
  obtain ⟨At, nt, ct, ti, rfl, b1, b2, b3⟩ := mps_cell h1'
  obtain ⟨Ci, ni, ci, Cb, nb, cb, ca, rfl, rfl, p1, p2, p3, p4, p5⟩ := trie_cells h2'
  obtain ⟨Ii, mi, di, Ib, mb, db, ig, rfl, rfl, q1, q2, q3, q4, q5⟩ := trie_cells h3'
  exact ⟨⟨Al, nl, cl, At, nt, ct, Ci, ni, ci, Cb, nb, cb, Ii, mi, di, Ib, mb, db⟩, { lo := lo, ti := ti, ca := ca, ig := ig }, rfl, ⟨a3, b3, p5, q5⟩, ⟨a1, b1, p2, p3, q2, q3, p1, q1, a2, b2, p4, q4⟩⟩
end Go.Vir


namespace Go.Vir
open Go Go.RowKit Go.ChangeShapes
section
variable {H : Type} {enc : TypeId × Value → H} {P : Program} {w : World} {base : Nat} {spare : Nat → Bool} {held : Bool}
end
theorem and_mk {a b : Bool} (h1 : a = true) (h2 : b = true) : (a && b) = true := by rw [h1, h2]; rfl
end Go.Vir

