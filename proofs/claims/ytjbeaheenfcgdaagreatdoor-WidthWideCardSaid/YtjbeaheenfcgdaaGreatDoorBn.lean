/- Joined texts: TrD, TsD, TsE, TsF, TsG, TsH, FwW, Sh5, Gl, G5, Gp, G15, Gs, Six, TsI. -/
import Derived.Test.YtjbeaheenfcgdaaGreatDoorBg
import Derived.Test.YtjbeaheenfcgdaaGreatDoorBm
import Derived.Test.YtjbeaheenfcgdaaGreatDoorBh
import Derived.Test.YtjbeaheenfcgdaaGreatDoorBb
import Derived.Test.YtjbeaheenfcgdaaGreatDoorBf
import Derived.Test.YtjbeaheenfcgdaaGreatDoorBl
import Derived.Test.YtjbeaheenfcgdaaGreatDoorProg
import Derived.Test.YtjbeaheenfcgdaaGreatDoorShelf
import Derived.Test.YtjbeaheenfcgdaaGreatDoorBa
import Derived.Test.YtjbeaheenfcgdaaGreatDoorRows
import Derived.StillTailTactics
import Derived.Shelf.Strings.BuilderRune
import Derived.RangeFuncBox
import Derived.Deep.RegionHeld3
import Derived.Laws.StructEq
import Derived.Maps.RangeRun
import Derived.Maps.RangeWalk
import Derived.Deep.RegionLaw
import Derived.Deep.DeepCutAuto
import Derived.ProofKit
import Derived.OpenShut
import Derived.LaidMore
import Derived.LaidLaws
import Derived.LaidHandle
import Derived.Lay
import Derived.HandedShaped
import Derived.Shelf.Vars
import Derived.Stop.Joined
import Derived.ChangeSame
import Derived.Deep.Strs
import Derived.SliceStrings
import Derived.ChangeMaps5
import Derived.Carry
/- The walks of the references: viramaref06.Same; viramaref15.Right, wide; viramaref14.Texts. -/
namespace Go.Vir
open Go Go.RowKit Go.Proofs
attribute [local go_sem] Oper.semAt_some

set_option maxRecDepth 100000 in
set_option maxHeartbeats 4000000 in
theorem ref15_Right (Ai : Option Addr) (ni ci : Nat) (Ab : Option Addr) (nb cb : Nat) (wd : Bool) (T : TrV) (w : World) (hT : Tri w w.heap.size Ai ni Ab nb T) (hi : ni ≤ 1000000) (hnb : nb ≤ 1000000) (hbs : ∀ b ∈ T.bl, b.length ≤ 1000000) :
    Calls Tryz.prog 31 #[.agg #[.slice Ai ni ci, .slice Ab nb cb, .bool wd]] w fun e w' => e = .returned (.bool (rightW T)) ∧ Below w.heap.size w w' := by
  obtain ⟨W0, hW0⟩ : ∃ W0, W0 = w.alloc (.cells #[.slice Ai ni ci, .slice Ab nb cb, .bool wd] 42) := ⟨_, rfl⟩
  have hbw0 : Below w.heap.size w W0 := by rw [hW0]; go_grown
  have c0 : W0.heap[w.heap.size]? = some (.cells #[.slice Ai ni ci, .slice Ab nb cb, .bool wd] 42 (0, 0)) := by rw [hW0]; exact heap_new rfl
  have hs0 : W0.heap.size = w.heap.size + 1 := by rw [hW0]; simp
  have H0 := ref06_Right Ai ni ci Ab nb cb T W0 ((hT.below hbw0).more hbw0.size) hi hnb
  have hbad : ∀ (k : Nat) (h : k < T.bl.length) (j : Nat) (hj : j < T.bl[k].length), T.bl[k][j] > 6 → rightW T = false := fun k h j hj hx => by
    rw [Bool.eq_false_iff]
    intro hr
    unfold rightW at hr
    simp only [Bool.and_eq_true, List.all_eq_true, decide_eq_true_eq] at hr
    have := hr.2 _ (List.getElem_mem h) _ (List.getElem_mem hj)
    omega
  have hall : rightT T = true → (∀ (k : Nat) (h : k < T.bl.length) (j : Nat) (hj : j < T.bl[k].length), T.bl[k][j] ≤ 6) → rightW T = true := fun h1 h2 => by
    unfold rightW
    simp only [Bool.and_eq_true, List.all_eq_true, decide_eq_true_eq]
    refine ⟨h1, fun b hb v hv => ?_⟩
    obtain ⟨k, hk, rfl⟩ := List.getElem_of_mem hb
    obtain ⟨j, hj, rfl⟩ := List.getElem_of_mem hv
    have := h2 k hk j hj
    omega
  have hno : rightT T = false → rightW T = false := fun h => by unfold rightW; rw [h]; rfl
  have hTl := hT.bl.len
  rw [hW0] at H0
  generalize rightW T = R at *
  generalize rightT T = rt at *
  have HT := Lib.hid hT
  have Hbad := Lib.hid hbad
  have Hall := Lib.hid hall
  have Hno := Lib.hid hno
  have HTl := Lib.hid hTl
  have H0' := Lib.hid H0
  have Hb0 := Lib.hid hbw0
  have Hc0 := Lib.hid c0
  have Hs0 := Lib.hid hs0
  have HW0 := Lib.hid hW0
  have Hbs := Lib.hid hbs
  clear hT hbad hall hno hTl H0 hbw0 c0 hs0 hW0 hbs
  go_enter Tryz.func31, Tryz.ntmps31
  go_wp2_with fail
  refine H0'.out.mono ?_
  rintro e w1 ⟨rfl, hb1⟩
  rw [← HW0.out] at hb1
  have hs0 := Hs0.out
  have hbw1 := Hb0.out.trans (hb1.mono Hb0.out.size)
  rcases rt with _ | _
  · have hn := Hno.out rfl
    subst hn
    go_wp2_with fail
    go_ret
    exact ⟨rfl, hbw1⟩
  · clear H0'
    go_wp2_with fail
    go_loopw [3] (fun i wr => ∃ k : Nat, k ≤ nb ∧ i = .int .i64 (k : Int) ∧ (∀ (q : Nat) (_ : q < k) (h : q < T.bl.length) (j : Nat) (hj : j < T.bl[q].length), T.bl[q][j] ≤ 6) ∧ wr = w1) (fun i _ => nb - (RowKit.intOf i).toNat)
    case atStart => exact ⟨0, Nat.zero_le _, rfl, fun j h => absurd h (by omega), rfl⟩
    case round =>
      obtain ⟨k, hk, rfl, hnk, hwe⟩ := hrel
      subst hwe
      have u1 : wr.cell? ⟨w.heap.size, 1, none⟩ = some (.slice Ab nb cb) := (cellOf hb1 (by omega)).trans (cell_blk Hc0.out 1)
      rcases Nat.lt_or_ge k nb with hlt | hge
      · obtain ⟨bb, bo, rfl, hbb, hbc⟩ := HT.out.bl.at_ (by omega)
        have hkx : k < T.bl.length := by rw [HTl.out]; exact hlt
        obtain ⟨A1, n1, q1, g1, g2, _⟩ := hbc k hkx
        have u2 := (cellOf hbw1 hbb).trans g1
        have hln := g2.len
        have hn1 : n1 ≤ 1000000 := by rw [← hln]; exact Hbs.out _ (List.getElem_mem hkx)
        have hb2 := Hbad.out k hkx
        have hnk2 : (∀ (j : Nat) (hj : j < T.bl[k].length), T.bl[k][j] ≤ 6) → ∀ (q : Nat) (_ : q < k + 1) (h : q < T.bl.length) (j : Nat) (hj : j < T.bl[q].length), T.bl[q][j] ≤ 6 := fun hx q h1 h2 => by
          rcases Nat.lt_or_ge q k with h3 | h3
          · exact hnk q h3 h2
          · obtain rfl : q = k := by omega
            exact hx
        generalize T.bl[k] = b at *
        have Hb2 := Lib.hid hb2
        have Hnk2 := Lib.hid hnk2
        have Hg2 := Lib.hid g2
        have Hln := Lib.hid hln
        clear hb2 hnk2 hnk g1 g2 hbc hln
        go_wp2_with fail
        go_loopw [4] (fun i wr2 => ∃ j : Nat, j ≤ n1 ∧ i = .int .i64 (j : Int) ∧ (∀ (q : Nat) (_ : q < j) (h : q < b.length), b[q] ≤ 6) ∧ wr2 = wr) (fun i _ => n1 - (RowKit.intOf i).toNat)
        case atStart => exact ⟨0, Nat.zero_le _, rfl, fun j h => absurd h (by omega), rfl⟩
        case round =>
          obtain ⟨j, hj, rfl, hnj, hwe⟩ := hrel
          subst hwe
          rcases Nat.lt_or_ge j n1 with hlt | hge
          · obtain ⟨cb', co, rfl, hcb, hcc⟩ := Hg2.out.at_ (by omega)
            have hjl : j < b.length := by rw [Hln.out]; exact hlt
            have u3 := (cellOf hbw1 hcb).trans (hcc j hjl)
            have hb3 := Hb2.out j hjl
            have hnj2 : (b[j] ≤ 6) → ∀ (q : Nat) (_ : q < j + 1) (h : q < b.length), b[q] ≤ 6 := fun hx q h1 h2 => by
              rcases Nat.lt_or_ge q j with h3 | h3
              · exact hnj q h3 h2
              · obtain rfl : q = j := by omega
                exact hx
            generalize b[j] = x at *
            have Hb3 := Lib.hid hb3
            have Hnj2 := Lib.hid hnj2
            clear hb3 hnj2 hnj hcc
            rcases h1 : decide (x > 6) with _ | _
            · have hn := Hnj2.out (by have := of_decide_eq_false h1; omega)
              have Hn := Lib.hid hn
              clear hn
              go_wp2_with fail
              go_roundw
              case rel => exact ⟨j + 1, by omega, by go_num, Hn.out, by first | trivial | rfl⟩
              case measure => simp [RowKit.intOf]; omega
            · have hn := Hb3.out (of_decide_eq_true h1)
              subst hn
              go_wp2_with fail
              go_ret
              exact ⟨rfl, hbw1⟩
          · have hn := Hnk2.out (fun q hq => hnj q (by have := Hln.out; omega) hq)
            have Hn := Lib.hid hn
            clear hn hnj
            go_wp2_with fail
            go_roundw
            case rel => exact ⟨k + 1, by omega, by go_num, Hn.out, by first | trivial | rfl⟩
            case measure => simp [RowKit.intOf]; omega
      · have hn := Hall.out (by trivial) (fun q h => hnk q (by have := HTl.out; omega) h)
        subst hn
        clear hnk
        go_wp2_with fail
        go_ret
        exact ⟨rfl, hbw1⟩

theorem ref15_wide (Ai : Option Addr) (ni ci : Nat) (Ab : Option Addr) (nb cb : Nat) (wd : Bool) (T : TrV) (k : Nat) (w : World) (hT : Tri w w.heap.size Ai ni Ab nb T) (hr : rightT T = true) (hk : k ≤ 1114111) :
    Calls Tryz.prog 63 #[.agg #[.slice Ai ni ci, .slice Ab nb cb, .bool wd], .int .i64 (k : Int)] w fun e w' => e = .returned (.int .i64 (widT T wd (k : Int))) ∧ Below w.heap.size w w' := by
  obtain ⟨ib, io, bb, bo, b, o, c', n, rfl, rfl, hib, hbb, hbl, hn, rfl, hc', c1, c2, c3⟩ := hT.cell hr hk
  have hwv : widT T wd (k : Int) = widV wd (atT T k) := by unfold widT; rw [Int.toNat_natCast]
  rw [hwv]
  have e3 : k / 256 < 4352 := by omega
  have e4 : k % 256 < 256 := Nat.mod_lt _ (by decide)
  have e5 : ((k : Int)).tdiv 256 = ((k / 256 : Nat) : Int) := by rw [Int.tdiv_eq_ediv_of_nonneg (by omega)]; rfl
  have e6 : ((k : Int)).tmod 256 = ((k % 256 : Nat) : Int) := by rw [Int.tmod_eq_emod_of_nonneg (by omega)]; rfl
  have hb0 : Below w.heap.size w (w.alloc (.cells #[.slice (some ⟨ib, io, none⟩) 4352 ci, .slice (some ⟨bb, bo, none⟩) nb cb, .bool wd] 42)) := by go_grown
  have d1 := (cellOf hb0 hib).trans c1
  have d2 := (cellOf hb0 hbb).trans c2
  have d3 := (cellOf hb0 hbl).trans c3
  generalize atT T k = v at *
  generalize k / 256 = kq at *
  generalize k % 256 = kr at *
  clear c1 c2 c3 hwv hT hr
  by_cases h3 : v = 3
  · subst h3
    rw [show widV wd 3 = 2 from by cases wd <;> rfl]
    go_enter Tryz.func63, Tryz.ntmps63
    go_upto_region 1 with fail
    go_quiet (fail)
    go_wp2_with fail
    go_ret
    exact ⟨rfl, hb0.trans (Below.mono (below_drewN _ _ _) hb0.size)⟩
  · by_cases h4 : v = 4
    · subst h4
      rw [show widV wd 4 = 2 from by cases wd <;> rfl]
      go_enter Tryz.func63, Tryz.ntmps63
      go_upto_region 1 with fail
      go_quiet (fail)
      go_wp2_with fail
      go_ret
      exact ⟨rfl, hb0.trans (Below.mono (below_drewN _ _ _) hb0.size)⟩
    · by_cases h1 : v = 1
      · subst h1
        rcases wd with _ | _
        · rw [show widV false 1 = 1 from rfl]
          go_enter Tryz.func63, Tryz.ntmps63
          go_upto_region 1 with fail
          go_quiet (fail)
          go_wp2_with fail
          go_ret
          exact ⟨rfl, hb0.trans (Below.mono (below_drewN _ _ _) hb0.size)⟩
        · rw [show widV true 1 = 2 from rfl]
          go_enter Tryz.func63, Tryz.ntmps63
          go_upto_region 1 with fail
          go_quiet (fail)
          go_wp2_with fail
          go_ret
          exact ⟨rfl, hb0.trans (Below.mono (below_drewN _ _ _) hb0.size)⟩
      · by_cases h6 : v = 6
        · subst h6
          rw [show widV wd 6 = 0 from by cases wd <;> rfl]
          go_enter Tryz.func63, Tryz.ntmps63
          go_upto_region 1 with fail
          go_quiet (fail)
          go_wp2_with fail
          go_ret
          exact ⟨rfl, hb0.trans (Below.mono (below_drewN _ _ _) hb0.size)⟩
        · rw [show widV wd v = 1 from by unfold widV; rw [if_neg (by omega), if_neg h6]]
          have f3 : (v == 3) = false := by simpa using h3
          have f4 : (v == 4) = false := by simpa using h4
          have f1 : (v == 1) = false := by simpa using h1
          have f6 : (v == 6) = false := by simpa using h6
          clear h3 h4 h1 h6
          go_enter Tryz.func63, Tryz.ntmps63
          go_upto_region 1 with fail
          go_quiet (fail)
          go_wp2_with fail
          go_ret
          exact ⟨rfl, hb0.trans (Below.mono (below_drewN _ _ _) hb0.size)⟩
end Go.Vir


/- The walks of the references: viramaref15.Of, checked. -/
namespace Go.Vir
open Go Go.RowKit Go.Proofs
attribute [local go_sem] Oper.semAt_some

set_option maxRecDepth 100000 in
set_option maxHeartbeats 4000000 in
theorem ref15_Of (Ai : Option Addr) (ni ci : Nat) (Ab : Option Addr) (nb cb : Nat) (wd : Bool) (T : TrV) (r : Int) (w : World) (hT : Tri w w.heap.size Ai ni Ab nb T) (hi : ni ≤ 1000000) (hnb : nb ≤ 1000000) (hbs : ∀ b ∈ T.bl, b.length ≤ 1000000) :
    Calls Tryz.prog 28 #[.agg #[.slice Ai ni ci, .slice Ab nb cb, .bool wd], .int .i64 r] w fun e w' => e = .returned (.tuple #[.int .i64 (ofW T wd r).1, .int .i64 (ofW T wd r).2]) ∧ Below w.heap.size w w' := by
  obtain ⟨W0, hW0⟩ : ∃ W0, W0 = w.alloc (.cells #[.slice Ai ni ci, .slice Ab nb cb, .bool wd] 42) := ⟨_, rfl⟩
  have hbw : Below w.heap.size w W0 := by rw [hW0]; go_grown
  have hx0 : W0.heap[w.heap.size]? = some (.cells #[.slice Ai ni ci, .slice Ab nb cb, .bool wd] 42 (0, 0)) := by rw [hW0]; exact heap_new rfl
  have hT0 := (hT.below hbw).more hbw.size
  have e0 := cell_blk hx0 0
  have e1 := cell_blk hx0 1
  have e2 := cell_blk hx0 2
  have hrt := ref15_Right Ai ni ci Ab nb cb wd T W0 hT0 hi hnb hbs
  have hof : ofW T wd r = if rightW T = true then (if scaR r = true then (widT T wd r, 0) else (0, 10)) else (0, 130) := rfl
  have Hrt := Lib.hid hrt
  have Hof := Lib.hid hof
  have HT := Lib.hid hT0
  have Hbw := Lib.hid hbw
  have Hx := Lib.hid hx0
  clear hrt hof hT hT0 hbw hx0
  go_enter Tryz.func28, Tryz.ntmps28
  go_upto_region 1 with fail
  rw [← hW0]
  clear hW0
  go_wp2_with fail
  rcases hR : rightW T with _ | _
  · rw [hR] at Hrt
    have ho : ofW T wd r = (0, 130) := by rw [Hof.out, hR]; rfl
    have Ho := Lib.hid ho
    clear hR ho
    refine Hrt.out.mono ?_
    rintro e w1 ⟨rfl, hb1⟩
    have hbf := Hbw.out.trans (hb1.mono Hbw.out.size)
    go_wp2_with fail
    go_ret2
    exact ⟨by rw [Ho.out]; rfl, hbf⟩
  · have hrr := right_of_w hR
    rw [hR] at Hrt
    refine Hrt.out.mono ?_
    rintro e w1 ⟨rfl, hb1⟩
    have hbf := Hbw.out.trans (hb1.mono Hbw.out.size)
    have hsr := ref01_Right r w1
    rcases hsc : scaR r with _ | _
    · rw [hsc] at hsr
      have ho : ofW T wd r = (0, 10) := by rw [Hof.out, if_pos hR, hsc]; rfl
      have Ho := Lib.hid ho
      have Hsr := Lib.hid hsr
      clear hsr hsc ho hR
      go_wp2_with fail
      refine Hsr.out.mono ?_
      rintro e w2 ⟨rfl, hb2⟩
      have hbf2 := hbf.trans (hb2.mono hbf.size)
      go_wp2_with fail
      go_ret2
      exact ⟨by rw [Ho.out]; rfl, hbf2⟩
    · rw [hsc] at hsr
      obtain ⟨hr0, hr1⟩ := sca_bounds hsc
      obtain ⟨k, rfl⟩ := Int.eq_ofNat_of_zero_le hr0
      have ho : ofW T wd (k : Int) = (widT T wd (k : Int), 0) := by
        have := Hof.out
        rw [show ((k : Nat) : Int) = Int.ofNat k from rfl] at *
        rw [this, if_pos hR, hsc]; rfl
      have Ho := Lib.hid ho
      have Hsr := Lib.hid hsr
      clear hsr hsc ho hR
      go_wp2_with fail
      refine Hsr.out.mono ?_
      rintro e w2 ⟨rfl, hb2⟩
      have hbf2 := hbf.trans (hb2.mono hbf.size)
      have hb02 := hb1.trans (hb2.mono hb1.size)
      have hx2 := (hb02.block w.heap.size (Array.getElem?_eq_some_iff.1 Hx.out).1).trans Hx.out
      have f0 := cell_blk hx2 0
      have f1 := cell_blk hx2 1
      have f2 := cell_blk hx2 2
      have hwc := ref15_wide Ai ni ci Ab nb cb wd T k w2 ((HT.out.below hb02).more hb02.size) hrr (by omega)
      have Hwc := Lib.hid hwc
      clear hwc hx2
      go_wp2_with fail
      refine Hwc.out.mono ?_
      rintro e w3 ⟨rfl, hb3⟩
      have hbf3 := hbf2.trans (hb3.mono hbf2.size)
      go_wp2_with fail
      go_ret2
      exact ⟨by rw [Ho.out]; rfl, hbf3⟩
end Go.Vir


/- The walks of the references: viramaref15.checked. -/
namespace Go.Vir
open Go Go.RowKit Go.Proofs
attribute [local go_sem] Oper.semAt_some

set_option maxRecDepth 100000 in
set_option maxHeartbeats 4000000 in
theorem ref15_checked (Ai : Option Addr) (ni ci : Nat) (Ab : Option Addr) (nb cb : Nat) (wd : Bool) (T : TrV) (A : Option Addr) (n c : Nat) (cs : List (List UInt8)) (w : World) (hT : Tri w w.heap.size Ai ni Ab nb T) (hi : ni ≤ 1000000) (hnb : nb ≤ 1000000) (hbs : ∀ b ∈ T.bl, b.length ≤ 1000000)
    (hx : Strs w w.heap.size A n cs) (hn : n ≤ 1000000) (hcs : ∀ x ∈ cs, x.length ≤ 1000000) :
    Calls Tryz.prog 75 #[.agg #[.slice Ai ni ci, .slice Ab nb cb, .bool wd], .slice A n c] w fun e w' => e = .returned (.int .i64 (chkW T cs)) ∧ Below w.heap.size w w' := by
  obtain ⟨W0, hW0⟩ : ∃ W0, W0 = w.alloc (.cells #[.slice Ai ni ci, .slice Ab nb cb, .bool wd] 42) := ⟨_, rfl⟩
  have hbw : Below w.heap.size w W0 := by rw [hW0]; go_grown
  have hx0 : W0.heap[w.heap.size]? = some (.cells #[.slice Ai ni ci, .slice Ab nb cb, .bool wd] 42 (0, 0)) := by rw [hW0]; exact heap_new rfl
  have e0 := cell_blk hx0 0
  have e1 := cell_blk hx0 1
  have e2 := cell_blk hx0 2
  have hrt := ref15_Right Ai ni ci Ab nb cb wd T W0 ((hT.below hbw).more hbw.size) hi hnb hbs
  have hck : chkW T cs = if rightW T = true then (if cs.all (fun c => (scalarsU c).isSome) = true then 0 else 11) else 130 := rfl
  have Hrt := Lib.hid hrt
  have Hck := Lib.hid hck
  have Hbw := Lib.hid hbw
  have Hx := Lib.hid hx
  have Hlen := Lib.hid hx.len
  have Hcs := Lib.hid hcs
  clear hrt hck hT hbw hx0 hx hcs
  go_enter Tryz.func75, Tryz.ntmps75
  go_upto_region 1 with fail
  rw [← hW0]
  clear hW0
  go_wp2_with fail
  rcases hR : rightW T with _ | _
  · rw [hR] at Hrt
    have ho : chkW T cs = 130 := by rw [Hck.out, hR]; rfl
    have Ho := Lib.hid ho
    clear hR ho
    refine Hrt.out.mono ?_
    rintro e w1 ⟨rfl, hb1⟩
    have hbf := Hbw.out.trans (hb1.mono Hbw.out.size)
    go_wp2_with fail
    go_ret
    exact ⟨by rw [Ho.out]; rfl, hbf⟩
  · rw [hR] at Hrt
    have ho : chkW T cs = if cs.all (fun c => (scalarsU c).isSome) = true then 0 else 11 := by rw [Hck.out, if_pos hR]
    have Ho := Lib.hid ho
    clear hR ho
    refine Hrt.out.mono ?_
    rintro e w1 ⟨rfl, hb1⟩
    have hbf := Hbw.out.trans (hb1.mono Hbw.out.size)
    have Hbf := Lib.hid hbf
    clear hbf hb1
    go_wp2_with fail
    go_loopw [5] (fun i wr => ∃ k : Nat, k ≤ n ∧ i = .int .i64 (k : Int) ∧ (∀ (j : Nat) (_ : j < k) (h : j < cs.length), (scalarsU cs[j]).isSome = true) ∧ Below w.heap.size w wr) (fun i _ => n - (RowKit.intOf i).toNat)
    case atStart => exact ⟨0, Nat.zero_le _, rfl, fun j h => absurd h (by omega), Hbf.out⟩
    case round =>
      obtain ⟨k, hk, rfl, hok, hbr⟩ := hrel
      obtain ⟨wo, hwo⟩ : ∃ wo, wo = wr := ⟨_, rfl⟩
      subst hwo
      rcases Nat.lt_or_ge k n with hlt | hge
      · have hkl : k < cs.length := by rw [Hlen.out]; exact hlt
        obtain ⟨xb, xo, rfl, hxb, hxc⟩ := Hx.out.at_ (by omega)
        have u0 := (cellOf hbr hxb).trans (hxc k hkl)
        have hv := ref01_Valid cs[k] wo (Hcs.out _ (List.getElem_mem hkl))
        have hok2 : (scalarsU cs[k]).isSome = true → ∀ (j : Nat) (_ : j < k + 1) (h : j < cs.length), (scalarsU cs[j]).isSome = true := fun hx j h1 h2 => by
          rcases Nat.lt_or_ge j k with h3 | h3
          · exact hok j h3 h2
          · obtain rfl : j = k := by omega
            exact hx
        have hno : (scalarsU cs[k]).isSome = false → chkW T cs = 11 := fun hx => by
          rw [Ho.out, if_neg]
          rw [List.all_eq_true]
          intro h
          have := h _ (List.getElem_mem hkl)
          rw [hx] at this
          cases this
        have Hok2 := Lib.hid hok2
        have Hno := Lib.hid hno
        clear hok hok2 hno hxc
        generalize (scalarsU cs[k]).isSome = b at *
        generalize cs[k] = ck at *
        have Hv := Lib.hid hv
        clear hv
        rcases b with _ | _
        · have hz := Hno.out rfl
          have Hz := Lib.hid hz
          clear hz
          go_wp2_with fail
          refine Hv.out.mono ?_
          rintro e w2 ⟨rfl, hb2⟩
          have hbf2 := hbr.trans (hb2.mono hbr.size)
          go_wp2_with fail
          go_ret
          exact ⟨by rw [Hz.out]; rfl, hbf2⟩
        · have hz := Hok2.out rfl
          have Hz := Lib.hid hz
          clear hz
          go_wp2_with fail
          refine Hv.out.mono ?_
          rintro e w2 ⟨rfl, hb2⟩
          have hbf2 := hbr.trans (hb2.mono hbr.size)
          go_wp2_with fail
          go_roundw
          case rel => exact ⟨k + 1, by omega, by go_num, Hz.out, hbf2⟩
          case measure => simp [RowKit.intOf]; omega
      · obtain rfl : k = n := by omega
        have hz : chkW T cs = 0 := by
          rw [Ho.out, if_pos]
          rw [List.all_eq_true]
          intro y hy
          obtain ⟨j, hj, rfl⟩ := List.getElem_of_mem hy
          exact hok j (by have := Hlen.out; omega) hj
        have Hz := Lib.hid hz
        clear hz hok
        go_wp2_with fail
        go_ret
        exact ⟨by rw [Hz.out]; rfl, hbr⟩
end Go.Vir


/- The walks of the references: viramaref15.Widest. -/
namespace Go.Vir
open Go Go.RowKit Go.Proofs
attribute [local go_sem] Oper.semAt_some

set_option maxRecDepth 100000 in
set_option maxHeartbeats 4000000 in
theorem ref15_Widest (Ai : Option Addr) (ni ci : Nat) (Ab : Option Addr) (nb cb : Nat) (wd : Bool) (T : TrV) (s : List UInt8) (l : List Int) (w : World) (hT : Tri w w.heap.size Ai ni Ab nb T) (hr : rightT T = true) (hs : s.length ≤ 1000000) (hsc : scalarsU s = some l) :
    Calls Tryz.prog 76 #[.agg #[.slice Ai ni ci, .slice Ab nb cb, .bool wd], .string ⟨s.toArray⟩] w fun e w' => e = .returned (.int .i64 (clusW T wd l)) ∧ Below w.heap.size w w' := by
  obtain ⟨W0, hW0⟩ : ∃ W0, W0 = w.alloc (.cells #[.slice Ai ni ci, .slice Ab nb cb, .bool wd] 42) := ⟨_, rfl⟩
  have hbw : Below w.heap.size w W0 := by rw [hW0]; go_grown
  have hx0 : W0.heap[w.heap.size]? = some (.cells #[.slice Ai ni ci, .slice Ab nb cb, .bool wd] 42 (0, 0)) := by rw [hW0]; exact heap_new rfl
  obtain ⟨hsr, hll⟩ := scalars_right s l hsc
  have Hrt := Lib.hid (ref01_Scalars s W0 hs)
  have Hbw := Lib.hid hbw
  have Hx := Lib.hid hx0
  have HT := Lib.hid ((hT.below hbw).more hbw.size)
  have Hsr := Lib.hid hsr
  have Hsc := Lib.hid hsc
  clear hbw hx0 hT hsr hsc
  go_enter Tryz.func76, Tryz.ntmps76
  go_upto_region 1 with fail
  rw [← hW0]
  clear hW0
  go_wp2_with fail
  refine Hrt.out.mono ?_
  rintro e w1 ⟨h1, hb1⟩
  unfold ScP at h1
  rw [Hsc.out] at h1
  obtain ⟨A, n, c, rfl, hin⟩ := h1
  have hbf := Hbw.out.trans (hb1.mono Hbw.out.size)
  have Hbf := Lib.hid hbf
  have Hin := Lib.hid hin
  have Hlen := Lib.hid hin.len
  have Hb1 := Lib.hid hb1
  have hn6 : n ≤ 1000000 := by have := hin.len; omega
  clear hbf hin hb1
  go_wp2_with fail
  go_loopw [9, 7, 8] (fun i a b wr => ∃ k : Nat, k ≤ n ∧ i = .int .i64 (k : Int) ∧ a = .int .i64 (maxW T wd (l.take k)) ∧ b = .bool (emoW (l.take k)) ∧ Below w1.heap.size w1 wr) (fun i _ _ _ => n - (RowKit.intOf i).toNat)
  case atStart => exact ⟨0, Nat.zero_le _, rfl, rfl, rfl, Below.refl _ _⟩
  case round =>
    obtain ⟨k, hk, rfl, rfl, rfl, hbr⟩ := hrel
    obtain ⟨wo, hwo⟩ : ∃ wo, wo = wr := ⟨_, rfl⟩
    subst hwo
    rcases Nat.lt_or_ge k n with hlt | hge
    · have hkl : k < l.length := by rw [Hlen.out]; exact hlt
      obtain ⟨xb, xo, rfl, hxb, hxc⟩ := Hin.out.at_ (by omega)
      have u0 := (cellOf hbr hxb).trans (hxc k hkl)
      obtain ⟨hr0, hr1⟩ := sca_bounds (Hsr.out _ (List.getElem_mem hkl))
      have htk : l.take (k + 1) = l.take k ++ [l[k]] := List.take_succ_eq_append_getElem hkl
      have hms := maxW_snoc T wd (l.take k) l[k]
      have hes := emo_snoc (l.take k) l[k]
      rw [← htk] at hms hes
      have hne : (l.take k ≠ []) ↔ 0 < k := by
        rw [Ne, List.take_eq_nil_iff]
        constructor
        · intro h; omega
        · rintro h (h2 | h2)
          · omega
          · subst h2; simp at hkl
      obtain ⟨r, hrr⟩ := Int.eq_ofNat_of_zero_le hr0
      have hx1 := (hbr.block w.heap.size (by have := Hb1.out.size; have := (Array.getElem?_eq_some_iff.1 Hx.out).1; omega)).trans ((Hb1.out.block w.heap.size (Array.getElem?_eq_some_iff.1 Hx.out).1).trans Hx.out)
      have Hlt0 := Lib.hid (show w.heap.size < wo.heap.size from (Array.getElem?_eq_some_iff.1 hx1).1)
      have f0 := cell_blk hx1 0
      have f1 := cell_blk hx1 1
      have f2 := cell_blk hx1 2
      have hb0r : Below W0.heap.size W0 wo := Hb1.out.trans (hbr.mono Hb1.out.size)
      have hwc := ref15_wide Ai ni ci Ab nb cb wd T r wo.drew ((HT.out.below hb0r.drew).more hb0r.drew.size) hr (by omega)
      rw [← show l[k] = ((r : Nat) : Int) from hrr] at hwc
      have Hxc := Lib.hid (fun (V : World) (hV : Below w1.heap.size w1 V) => (cellOf hV hxb).trans (hxc k hkl))
      clear hrr htk hxc hx1 hb0r
      generalize l[k] = x at *
      have Hwc := Lib.hid hwc
      have Hms := Lib.hid hms
      have Hes := Lib.hid hes
      have Hne := Lib.hid hne
      clear hwc hms hes hne
      generalize widT T wd x = y at *
      generalize maxW T wd (l.take k) = mx at *
      go_upto_region 7 with fail
      have lt0 : w.heap.size < wo.heap.size := Hlt0.out
      have lt1 : xb < wo.heap.size := by have := hbr.size; omega
      refine wp_region_noPanic ?_
      refine wp_region_held_drew (S := fun V => Below wo.heap.size wo V) (by kernel_rfl) (Below.refl _ _).drew (fun hHeld => ?_)
      refine wpAnyH_take (i := 0) (v := .int .i64 mx) rfl (by kernel_rfl) (by kernel_rfl) (by kernel_rfl) (fun _ _ _ h => h) (.inl ⟨by rfl, fun V hV => by have c0 := (cellOf hV lt0).trans f0; have c1 := (cellOf hV lt0).trans f1; have c2 := (cellOf hV lt0).trans f2; have c3 := (cellOf hV lt1).trans u0; clear hV; go_simp⟩) hHeld ?_
      try simp only [Act.put, List.getElem_toArray, List.getElem_cons_zero, List.setIfInBounds_toArray, List.set_cons_zero, List.set_cons_succ]
      refine wpAnyH_take (i := 1) (v := .agg #[.slice Ai ni ci, .slice Ab nb cb, .bool wd]) rfl (by kernel_rfl) (by kernel_rfl) (by kernel_rfl) (fun _ _ _ h => h) (.inl ⟨by rfl, fun V hV => by have c0 := (cellOf hV lt0).trans f0; have c1 := (cellOf hV lt0).trans f1; have c2 := (cellOf hV lt0).trans f2; have c3 := (cellOf hV lt1).trans u0; clear hV; go_simp⟩) hHeld ?_
      try simp only [Act.put, List.getElem_toArray, List.getElem_cons_zero, List.getElem_cons_succ, List.setIfInBounds_toArray, List.set_cons_zero, List.set_cons_succ]
      refine wpAnyH_take (i := 2) (v := .slice (some ⟨xb, xo, none⟩) n c) rfl (by kernel_rfl) (by kernel_rfl) (by kernel_rfl) (fun _ _ _ h => h) (.inl ⟨by rfl, fun V hV => by have c0 := (cellOf hV lt0).trans f0; have c1 := (cellOf hV lt0).trans f1; have c2 := (cellOf hV lt0).trans f2; have c3 := (cellOf hV lt1).trans u0; clear hV; go_simp⟩) hHeld ?_
      try simp only [Act.put, List.getElem_toArray, List.getElem_cons_zero, List.getElem_cons_succ, List.setIfInBounds_toArray, List.set_cons_zero, List.set_cons_succ]
      refine wpAnyH_take (i := 3) (v := .int .i64 (k : Int)) rfl (by kernel_rfl) (by kernel_rfl) (by kernel_rfl) (fun _ _ _ h => h) (.inl ⟨by rfl, fun V hV => by have c0 := (cellOf hV lt0).trans f0; have c1 := (cellOf hV lt0).trans f1; have c2 := (cellOf hV lt0).trans f2; have c3 := (cellOf hV lt1).trans u0; clear hV; go_simp⟩) hHeld ?_
      try simp only [Act.put, List.getElem_toArray, List.getElem_cons_zero, List.getElem_cons_succ, List.setIfInBounds_toArray, List.set_cons_zero, List.set_cons_succ]
      refine wpAnyH_take (i := 4) (v := .pointer (some ⟨xb, xo + k, none⟩)) rfl (by kernel_rfl) (by kernel_rfl) (by kernel_rfl) (fun _ _ _ h => h) (.inl ⟨by rfl, fun V hV => by have c0 := (cellOf hV lt0).trans f0; have c1 := (cellOf hV lt0).trans f1; have c2 := (cellOf hV lt0).trans f2; have c3 := (cellOf hV lt1).trans u0; clear hV; go_simp⟩) hHeld ?_
      try simp only [Act.put, List.getElem_toArray, List.getElem_cons_zero, List.getElem_cons_succ, List.setIfInBounds_toArray, List.set_cons_zero, List.set_cons_succ]
      refine wpAnyH_take (i := 5) (v := .int .i64 x) rfl (by kernel_rfl) (by kernel_rfl) (by kernel_rfl) (fun _ _ _ h => h) (.inl ⟨by rfl, fun V hV => by have c0 := (cellOf hV lt0).trans f0; have c1 := (cellOf hV lt0).trans f1; have c2 := (cellOf hV lt0).trans f2; have c3 := (cellOf hV lt1).trans u0; clear hV; go_simp⟩) hHeld ?_
      try simp only [Act.put, List.getElem_toArray, List.getElem_cons_zero, List.getElem_cons_succ, List.setIfInBounds_toArray, List.set_cons_zero, List.set_cons_succ]
      refine wpAnyH_ready (rs := [6]) (by kernel_rfl) (by simp) ?_
      refine AllReadyH.cons rfl (fun K hK => ?_) AllReadyH.nil
      go_simp
      refine Hwc.out.mono ?_
      rintro e w2 ⟨rfl, hb2⟩
      refine hK.out _ _ (Below.trans hHeld (hb2.mono hHeld.size)) (fun hHeld => ?_)
      clear hK K
      try simp only [Act.put, List.getElem_toArray, List.getElem_cons_zero, List.getElem_cons_succ, List.setIfInBounds_toArray, List.set_cons_zero, List.set_cons_succ]
      refine wpAnyH_take (i := 7) (v := .int .i64 (max mx y)) rfl (by kernel_rfl) (by kernel_rfl) (by kernel_rfl) (fun _ _ _ h => h) (.inl ⟨by rfl, fun V hV => by go_simp⟩) hHeld ?_
      try simp only [Act.put, List.getElem_toArray, List.getElem_cons_zero, List.getElem_cons_succ, List.setIfInBounds_toArray, List.set_cons_zero, List.set_cons_succ]
      refine wpAnyH_take (i := 8) (v := .int .i64 (max mx y)) rfl (by kernel_rfl) (by kernel_rfl) (by kernel_rfl) (fun _ _ _ h => h) (.inl ⟨by rfl, fun V hV => by go_simp⟩) hHeld ?_
      try simp only [Act.put, List.getElem_toArray, List.getElem_cons_zero, List.getElem_cons_succ, List.setIfInBounds_toArray, List.set_cons_zero, List.set_cons_succ]
      refine wpAnyH_done (by kernel_rfl) ?_ _
      refine NoPanic.normal ?_
      have hbq : Below w1.heap.size w1 w2 := hbr.trans (hHeld.mono hbr.size)
      have u1 := Hxc.out w2 hbq
      have hmax : Value.int .i64 (max mx y) = .int .i64 (maxW T wd (l.take (k + 1))) := by rw [Hms.out]
      have Hmax := Lib.hid hmax
      clear hmax u0 f0 f1 f2
      by_cases hk0 : k = 0
      · subst hk0
        have hb : Value.bool (emoW (l.take 0)) = .bool (emoW (l.take (0 + 1))) := by rw [Hes.out]; simp [emoW]
        have Hb := Lib.hid hb
        clear hb
        go_wp2_with fail
        go_roundw
        case rel => exact ⟨0 + 1, by omega, by go_num, Hmax.out, Hb.out, hbq⟩
        case measure => first | (simp [RowKit.intOf]; done) | (simp [RowKit.intOf]; omega)
      · have hkp : 0 < k := by omega
        by_cases hx5 : x = 65039
        · have hb : Value.bool true = .bool (emoW (l.take (k + 1))) := by rw [Hes.out, decide_eq_true (Hne.out.2 hkp), decide_eq_true hx5]; simp
          have Hb := Lib.hid hb
          clear hb
          go_wp2_with fail
          go_roundw
          case rel => exact ⟨k + 1, by omega, by go_num, Hmax.out, Hb.out, hbq⟩
          case measure => simp [RowKit.intOf]; omega
        · have hb : Value.bool (emoW (l.take k)) = .bool (emoW (l.take (k + 1))) := by rw [Hes.out, decide_eq_false hx5]; simp
          have hx6 : (x == 65039) = false := beq_eq_false_iff_ne.2 hx5
          have Hb := Lib.hid hb
          clear hb
          go_wp2_with fail
          go_roundw
          case rel => exact ⟨k + 1, by omega, by go_num, Hmax.out, Hb.out, hbq⟩
          case measure => simp [RowKit.intOf]; omega
    · obtain rfl : k = n := by omega
      have hcl : clusW T wd l = if emoW l = true ∧ 0 < maxW T wd l then 2 else maxW T wd l := rfl
      rw [List.take_of_length_le (by rw [Hlen.out]; exact Nat.le_refl _)]
      have hbf2 := Hbf.out.trans (hbr.mono Hbf.out.size)
      generalize maxW T wd l = mx at *
      rcases hem : emoW l with _ | _
      · rw [hem] at hcl
        have hz : clusW T wd l = mx := by simpa using hcl
        have Hz := Lib.hid hz
        clear hcl hz
        go_wp2_with fail
        go_ret
        exact ⟨by rw [Hz.out]; rfl, hbf2⟩
      · rw [hem] at hcl
        by_cases hm : 0 < mx
        · have hz : clusW T wd l = 2 := by simpa [hm] using hcl
          have Hz := Lib.hid hz
          clear hcl hz
          go_wp2_with fail
          go_ret
          exact ⟨by rw [Hz.out]; rfl, hbf2⟩
        · have hz : clusW T wd l = mx := by simpa [hm] using hcl
          have Hz := Lib.hid hz
          clear hcl hz
          go_wp2_with fail
          go_ret
          exact ⟨by rw [Hz.out]; rfl, hbf2⟩
end Go.Vir


/- The walks of the references: viramaref15.Columns. -/
namespace Go.Vir
open Go Go.RowKit Go.Proofs
attribute [local go_sem] Oper.semAt_some

set_option maxRecDepth 100000 in
set_option maxHeartbeats 4000000 in
theorem ref15_Columns (Ai : Option Addr) (ni ci : Nat) (Ab : Option Addr) (nb cb : Nat) (wd : Bool) (T : TrV) (A : Option Addr) (n c : Nat) (cs : List (List UInt8)) (w : World) (hT : Tri w w.heap.size Ai ni Ab nb T) (hi : ni ≤ 1000000) (hnb : nb ≤ 1000000) (hbs : ∀ b ∈ T.bl, b.length ≤ 1000000)
    (hx : Strs w w.heap.size A n cs) (hn : n ≤ 1000000) (hcs : ∀ x ∈ cs, x.length ≤ 1000000) :
    Calls Tryz.prog 41 #[.agg #[.slice Ai ni ci, .slice Ab nb cb, .bool wd], .slice A n c] w fun e w' => e = .returned (.tuple #[.int .i64 (colW T wd cs).1, .int .i64 (colW T wd cs).2]) ∧ Below w.heap.size w w' := by
  obtain ⟨W0, hW0⟩ : ∃ W0, W0 = w.alloc (.cells #[.slice Ai ni ci, .slice Ab nb cb, .bool wd] 42) := ⟨_, rfl⟩
  have hbw : Below w.heap.size w W0 := by rw [hW0]; go_grown
  have hx0 : W0.heap[w.heap.size]? = some (.cells #[.slice Ai ni ci, .slice Ab nb cb, .bool wd] 42 (0, 0)) := by rw [hW0]; exact heap_new rfl
  have e0 := cell_blk hx0 0
  have e1 := cell_blk hx0 1
  have e2 := cell_blk hx0 2
  have hck := ref15_checked Ai ni ci Ab nb cb wd T A n c cs W0 ((hT.below hbw).more hbw.size) hi hnb hbs ((hx.below hbw).more hbw.size) hn hcs
  have Hck := Lib.hid hck
  have Hbw := Lib.hid hbw
  have HX := Lib.hid hx0
  have HT := Lib.hid ((hT.below hbw).more hbw.size)
  have Hx := Lib.hid hx
  have Hlen := Lib.hid hx.len
  have Hcs := Lib.hid hcs
  clear hck hbw hx0 hT hx hcs
  go_enter Tryz.func41, Tryz.ntmps41
  go_upto_region 1 with fail
  rw [← hW0]
  clear hW0
  go_wp2_with fail
  refine Hck.out.mono ?_
  rintro e w1 ⟨rfl, hb1⟩
  have Hbf := Lib.hid (Hbw.out.trans (hb1.mono Hbw.out.size))
  have Hb1 := Lib.hid hb1
  clear hb1 e0 e1 e2
  rcases Int.decEq (chkW T cs) 0 with hc | hc
  · have Ho := Lib.hid (colW_bad (wd := wd) rfl hc)
    have hcb : (chkW T cs == 0) = false := beq_eq_false_iff_ne.2 hc
    go_wp2_with fail
    go_loopw [8, 7] (fun i a wr => i = .int .i64 0 ∧ a = .int .i64 0 ∧ Below w1.heap.size w1 wr) (fun _ _ _ => 0)
    case atStart => exact ⟨rfl, rfl, Below.refl _ _⟩
    case round =>
      obtain ⟨rfl, rfl, hbr⟩ := hrel
      have hbf := Hbf.out.trans (hbr.mono Hbf.out.size)
      go_wp2_with fail
      all_goals (go_ret2; exact ⟨by rw [Ho.out]; rfl, hbf⟩)
  · have hR : rightW T = true := by
      unfold chkW at hc
      split at hc
      · assumption
      · cases hc
    have hrr := right_of_w hR
    have Ho := Lib.hid (colW_ok (wd := wd) hc)
    have Hall := Lib.hid (chk_all hc)
    rw [hc]
    clear hc hR
    go_wp2_with fail
    go_loopw [8, 7] (fun i a wr => ∃ k : Nat, k ≤ n ∧ i = .int .i64 (k : Int) ∧ a = .int .i64 (sumW T wd (cs.take k)) ∧ Below w1.heap.size w1 wr) (fun i _ _ => n - (RowKit.intOf i).toNat)
    case atStart => exact ⟨0, Nat.zero_le _, rfl, rfl, Below.refl _ _⟩
    case round =>
      obtain ⟨k, hk, rfl, rfl, hbr⟩ := hrel
      obtain ⟨wo, hwo⟩ : ∃ wo, wo = wr := ⟨_, rfl⟩
      subst hwo
      rcases Nat.lt_or_ge k n with hlt | hge
      · have hkl : k < cs.length := by rw [Hlen.out]; exact hlt
        obtain ⟨xb, xo, rfl, hxb, hxc⟩ := Hx.out.at_ (by omega)
        have hww : Below w.heap.size w wo := Hbf.out.trans (hbr.mono Hbf.out.size)
        have u0 := (cellOf hww hxb).trans (hxc k hkl)
        obtain ⟨l, hsl⟩ := Option.isSome_iff_exists.1 (Hall.out _ (List.getElem_mem hkl))
        have hsn : sumW T wd (cs.take (k + 1)) = sumW T wd (cs.take k) + clusW T wd l := by
          rw [List.take_succ_eq_append_getElem hkl, sumW_snoc]
          unfold clusS
          rw [hsl]; rfl
        have hse := sumW_ends T wd (cs.take k)
        rw [List.length_take] at hse
        have hce := clusW_ends T wd l
        have hb0r : Below W0.heap.size W0 wo := Hb1.out.trans (hbr.mono Hb1.out.size)
        have hx1 := (hb0r.block w.heap.size (Array.getElem?_eq_some_iff.1 HX.out).1).trans HX.out
        have Hlt0 := Lib.hid (show w.heap.size < wo.heap.size from (Array.getElem?_eq_some_iff.1 hx1).1)
        have f0 := cell_blk hx1 0
        have f1 := cell_blk hx1 1
        have f2 := cell_blk hx1 2
        have hwc := ref15_Widest Ai ni ci Ab nb cb wd T cs[k] l wo.drew ((HT.out.below hb0r.drew).more hb0r.drew.size) hrr (Hcs.out _ (List.getElem_mem hkl)) hsl
        have Hwc := Lib.hid hwc
        have Hsn := Lib.hid hsn
        clear hwc hsn hxc hsl hx1 hb0r
        generalize clusW T wd l = y at *
        generalize sumW T wd (cs.take k) = z at *
        generalize cs[k] = s at *
        go_upto_region 6 with fail
        have lt0 : w.heap.size < wo.heap.size := Hlt0.out
        have lt1 : xb < wo.heap.size := by have := hww.size; omega
        refine wp_region_noPanic ?_
        refine wp_region_held_drew (S := fun V => Below wo.heap.size wo V) (by kernel_rfl) (Below.refl _ _).drew (fun hHeld => ?_)
        refine wpAnyH_take (i := 0) (v := .int .i64 z) rfl (by kernel_rfl) (by kernel_rfl) (by kernel_rfl) (fun _ _ _ h => h) (.inl ⟨by rfl, fun V hV => by have c0 := (cellOf hV lt0).trans f0; have c1 := (cellOf hV lt0).trans f1; have c2 := (cellOf hV lt0).trans f2; have c3 := (cellOf hV lt1).trans u0; clear hV; go_simp⟩) hHeld ?_
        try simp only [Act.put, List.getElem_toArray, List.getElem_cons_zero, List.setIfInBounds_toArray, List.set_cons_zero, List.set_cons_succ]
        refine wpAnyH_take (i := 1) (v := .agg #[.slice Ai ni ci, .slice Ab nb cb, .bool wd]) rfl (by kernel_rfl) (by kernel_rfl) (by kernel_rfl) (fun _ _ _ h => h) (.inl ⟨by rfl, fun V hV => by have c0 := (cellOf hV lt0).trans f0; have c1 := (cellOf hV lt0).trans f1; have c2 := (cellOf hV lt0).trans f2; have c3 := (cellOf hV lt1).trans u0; clear hV; go_simp⟩) hHeld ?_
        try simp only [Act.put, List.getElem_toArray, List.getElem_cons_zero, List.getElem_cons_succ, List.setIfInBounds_toArray, List.set_cons_zero, List.set_cons_succ]
        refine wpAnyH_take (i := 2) (v := .slice (some ⟨xb, xo, none⟩) n c) rfl (by kernel_rfl) (by kernel_rfl) (by kernel_rfl) (fun _ _ _ h => h) (.inl ⟨by rfl, fun V hV => by have c0 := (cellOf hV lt0).trans f0; have c1 := (cellOf hV lt0).trans f1; have c2 := (cellOf hV lt0).trans f2; have c3 := (cellOf hV lt1).trans u0; clear hV; go_simp⟩) hHeld ?_
        try simp only [Act.put, List.getElem_toArray, List.getElem_cons_zero, List.getElem_cons_succ, List.setIfInBounds_toArray, List.set_cons_zero, List.set_cons_succ]
        refine wpAnyH_take (i := 3) (v := .int .i64 (k : Int)) rfl (by kernel_rfl) (by kernel_rfl) (by kernel_rfl) (fun _ _ _ h => h) (.inl ⟨by rfl, fun V hV => by have c0 := (cellOf hV lt0).trans f0; have c1 := (cellOf hV lt0).trans f1; have c2 := (cellOf hV lt0).trans f2; have c3 := (cellOf hV lt1).trans u0; clear hV; go_simp⟩) hHeld ?_
        try simp only [Act.put, List.getElem_toArray, List.getElem_cons_zero, List.getElem_cons_succ, List.setIfInBounds_toArray, List.set_cons_zero, List.set_cons_succ]
        refine wpAnyH_take (i := 4) (v := .pointer (some ⟨xb, xo + k, none⟩)) rfl (by kernel_rfl) (by kernel_rfl) (by kernel_rfl) (fun _ _ _ h => h) (.inl ⟨by rfl, fun V hV => by have c0 := (cellOf hV lt0).trans f0; have c1 := (cellOf hV lt0).trans f1; have c2 := (cellOf hV lt0).trans f2; have c3 := (cellOf hV lt1).trans u0; clear hV; go_simp⟩) hHeld ?_
        try simp only [Act.put, List.getElem_toArray, List.getElem_cons_zero, List.getElem_cons_succ, List.setIfInBounds_toArray, List.set_cons_zero, List.set_cons_succ]
        refine wpAnyH_take (i := 5) (v := .string ⟨s.toArray⟩) rfl (by kernel_rfl) (by kernel_rfl) (by kernel_rfl) (fun _ _ _ h => h) (.inl ⟨by rfl, fun V hV => by have c0 := (cellOf hV lt0).trans f0; have c1 := (cellOf hV lt0).trans f1; have c2 := (cellOf hV lt0).trans f2; have c3 := (cellOf hV lt1).trans u0; clear hV; go_simp⟩) hHeld ?_
        try simp only [Act.put, List.getElem_toArray, List.getElem_cons_zero, List.getElem_cons_succ, List.setIfInBounds_toArray, List.set_cons_zero, List.set_cons_succ]
        refine wpAnyH_ready (rs := [6]) (by kernel_rfl) (by simp) ?_
        refine AllReadyH.cons rfl (fun K hK => ?_) AllReadyH.nil
        go_simp
        refine Hwc.out.mono ?_
        rintro e w2 ⟨rfl, hb2⟩
        refine hK.out _ _ (Below.trans hHeld (hb2.mono hHeld.size)) (fun hHeld => ?_)
        clear hK K
        try simp only [Act.put, List.getElem_toArray, List.getElem_cons_zero, List.getElem_cons_succ, List.setIfInBounds_toArray, List.set_cons_zero, List.set_cons_succ]
        refine wpAnyH_take (i := 7) (v := .int .i64 (z + y)) rfl (by kernel_rfl) (by kernel_rfl) (by kernel_rfl) (fun _ _ _ h => h) (.inl ⟨by rfl, fun V hV => by go_simp; first | done | exact wraps_i64 _ (by omega) (by omega)⟩) hHeld ?_
        try simp only [Act.put, List.getElem_toArray, List.getElem_cons_zero, List.getElem_cons_succ, List.setIfInBounds_toArray, List.set_cons_zero, List.set_cons_succ]
        refine wpAnyH_take (i := 8) (v := .int .i64 (z + y)) rfl (by kernel_rfl) (by kernel_rfl) (by kernel_rfl) (fun _ _ _ h => h) (.inl ⟨by rfl, fun V hV => by go_simp⟩) hHeld ?_
        try simp only [Act.put, List.getElem_toArray, List.getElem_cons_zero, List.getElem_cons_succ, List.setIfInBounds_toArray, List.set_cons_zero, List.set_cons_succ]
        refine wpAnyH_done (by kernel_rfl) ?_ _
        refine NoPanic.normal ?_
        have hbq : Below w1.heap.size w1 w2 := hbr.trans (hHeld.mono hbr.size)
        clear u0 f0 f1 f2
        go_wp2_with fail
        go_roundw
        case rel => exact ⟨k + 1, by omega, by go_num, by rw [Hsn.out], hbq⟩
        case measure => simp [RowKit.intOf]; omega
      · obtain rfl : k = n := by omega
        rw [List.take_of_length_le (by rw [Hlen.out]; exact Nat.le_refl _)]
        have hbf := Hbf.out.trans (hbr.mono Hbf.out.size)
        go_wp2_with fail
        go_ret2
        exact ⟨by rw [Ho.out]; rfl, hbf⟩
end Go.Vir


/- The walks of the references: viramaref15.Cluster. -/
namespace Go.Vir
open Go Go.RowKit Go.Proofs
attribute [local go_sem] Oper.semAt_some

set_option maxRecDepth 100000 in
set_option maxHeartbeats 4000000 in
theorem ref15_Cluster (Ai : Option Addr) (ni ci : Nat) (Ab : Option Addr) (nb cb : Nat) (wd : Bool) (T : TrV) (s : List UInt8) (w : World) (hT : Tri w w.heap.size Ai ni Ab nb T) (hi : ni ≤ 1000000) (hnb : nb ≤ 1000000) (hbs : ∀ b ∈ T.bl, b.length ≤ 1000000) (hl : s.length ≤ 1000000) :
    Calls Tryz.prog 37 #[.agg #[.slice Ai ni ci, .slice Ab nb cb, .bool wd], .string ⟨s.toArray⟩] w fun e w' => e = .returned (.tuple #[.int .i64 (cluW T wd s).1, .int .i64 (cluW T wd s).2]) ∧ Below w.heap.size w w' := by
  obtain ⟨W1, hW1⟩ : ∃ W1, W1 = (w.alloc (.cells #[.slice Ai ni ci, .slice Ab nb cb, .bool wd] 42)).alloc (.cells #[.string ⟨s.toArray⟩] 9) := ⟨_, rfl⟩
  have hbw : Below w.heap.size w W1 := by rw [hW1]; go_grown
  have hs1 : W1.heap.size = w.heap.size + 2 := by rw [hW1]; simp
  have hx : Strs W1 W1.heap.size (some ⟨w.heap.size + 1, 0, none⟩) 1 [s] := ⟨rfl, fun _ => ⟨_, 0, rfl, by omega, fun j hj => by
    obtain rfl : j = 0 := by simpa using hj
    rw [hW1]
    exact cell_blk (heap_new (by simp)) 0⟩⟩
  have hop := ref15_Columns Ai ni ci Ab nb cb wd T (some ⟨w.heap.size + 1, 0, none⟩) 1 1 [s] W1 ((hT.below hbw).more hbw.size) hi hnb hbs hx (by omega) (fun x hx => by rw [List.mem_singleton.1 hx]; exact hl)
  have Hop := Lib.hid hop
  have Hbw := Lib.hid hbw
  clear hop hbw hT hx
  go_enter Tryz.func37, Tryz.ntmps37
  go_wp2_with fail
  rw [← hW1]
  clear hW1
  refine Hop.out.mono ?_
  rintro e w1 ⟨rfl, hb1⟩
  have hbf := Hbw.out.trans (hb1.mono Hbw.out.size)
  go_wp2_with fail
  go_ret2
  exact ⟨rfl, hbf⟩
end Go.Vir


/- viramalaw15: Few. -/
namespace Go.Vir
open Go Go.RowKit Go.Proofs Go.Shelf
attribute [local go_sem] Oper.semAt_some

set_option maxRecDepth 100000 in
set_option maxHeartbeats 2000000 in
theorem law_FewW (A : Option Addr) (n c : Nat) (ss : List (List UInt8)) (w : World) (hz : Strs w w.heap.size A n ss) (hn : n ≤ 9223372036854775807) :
    Calls Tryz.prog 39 #[.slice A n c] w fun e w' => (∃ A' n' c', e = .returned (.slice A' n' c') ∧ n' ≤ c' ∧ Strs w' w'.heap.size A' n' (fewW ss) ∧ (A' = none → n' = 0 ∧ c' = 0)) ∧ Below w.heap.size w w' := by
  obtain ⟨i0, hi0, hz0, hz1, hz2⟩ := info_parts str_info
  have Hlen := Lib.hid hz.len
  go_enter Tryz.func39, Tryz.ntmps39
  go_wp2
  go_loopw [3, 4] (fun v i wr => ∃ k : Nat, k ≤ n ∧ k ≤ 20 ∧ i = .int .i64 (k : Int) ∧ wr.ownsRow w.heap.size 9 1 v (fewW (ss.take k)).length (strVs (fewW (ss.take k))) ∧ Below w.heap.size w wr) (fun _ i _ => 20 - (RowKit.intOf i).toNat)
  case atStart => exact ⟨0, Nat.zero_le _, by omega, rfl, by simpa [fewW, strVs] using World.ownsRow_nil _ _ _ _, Below.refl _ _⟩
  case round =>
    obtain ⟨k, hk, hk20, rfl, hown, hb⟩ := hrel
    have hfl := (fewW_len (ss.take k)).1
    by_cases hlt : k < n ∧ k < 20
    · obtain ⟨h1, h2⟩ := hlt
      obtain ⟨sb, so, rfl, hsb, hsc⟩ := hz.at_ (by omega)
      have hks : k < ss.length := by rw [Hlen.out]; exact h1
      have s0 := hsc k hks
      have s1 := (cellOf hb hsb).trans s0
      have hsucc := fewW_succ hks h2
      have Hsucc := Lib.hid hsucc
      clear hsc hsucc
      generalize ss[k] = s at *
      go_upto_region 5 with fail
      have hb1 : Below w.heap.size w (wr.drew.alloc (.cells #[.string ⟨(s.take 40).toArray⟩] 9)) := hb.drew.alloc hb.size _
      have t1 := (cellOf hb1 hsb).trans s0
      have hcs : ∀ (j : Nat) (u : Value), [Value.string ⟨(s.take 40).toArray⟩][j]? = some u → (wr.drew.alloc (.cells #[.string ⟨(s.take 40).toArray⟩] 9)).cell? ((⟨wr.drew.heap.size, 0, none⟩ : Addr).add j) = some u := cell_one_new wr.drew _ _
      have Hcs := Lib.hid hcs
      have hown1 := hown.drew.alloc (.cells #[.string ⟨(s.take 40).toArray⟩] 9)
      have hbs := hb1.size
      have hmin : s.take (min s.length 40) = s.take 40 := by
        rcases Nat.le_total s.length 40 with h | h
        · rw [Nat.min_eq_left h, List.take_length, List.take_of_length_le h]
        · rw [Nat.min_eq_right h]
      clear hcs
      refine wp_region_noPanic ?_
      refine wp_region_held_drew (S := (fun V => V.cell? ⟨sb, so + k, none⟩ = some (.string ⟨s.toArray⟩))) (by kernel_rfl) s1 (fun hHeld => ?_)
      refine wpAnyH_take (i := 0) (v := u3) rfl (by kernel_rfl) (by kernel_rfl) (by kernel_rfl) (fun _ _ _ h => h) (.inl ⟨by rfl, fun V hV => by obtain c0 := hV; go_simp⟩) hHeld ?_
      try simp only [Act.put, List.getElem_toArray, List.getElem_cons_zero, List.setIfInBounds_toArray, List.set_cons_zero, List.set_cons_succ]
      refine wpAnyH_take (i := 1) (v := .slice (some ⟨sb, so, none⟩) n c) rfl (by kernel_rfl) (by kernel_rfl) (by kernel_rfl) (fun _ _ _ h => h) (.inl ⟨by rfl, fun V hV => by obtain c0 := hV; go_simp⟩) hHeld ?_
      try simp only [Act.put, List.getElem_toArray, List.getElem_cons_zero, List.getElem_cons_succ, List.setIfInBounds_toArray, List.set_cons_zero, List.set_cons_succ]
      refine wpAnyH_take (i := 2) (v := .int .i64 (k : Int)) rfl (by kernel_rfl) (by kernel_rfl) (by kernel_rfl) (fun _ _ _ h => h) (.inl ⟨by rfl, fun V hV => by obtain c0 := hV; go_simp⟩) hHeld ?_
      try simp only [Act.put, List.getElem_toArray, List.getElem_cons_zero, List.getElem_cons_succ, List.setIfInBounds_toArray, List.set_cons_zero, List.set_cons_succ]
      refine wpAnyH_take (i := 3) (v := .pointer (some ⟨sb, so + k, none⟩)) rfl (by kernel_rfl) (by kernel_rfl) (by kernel_rfl) (fun _ _ _ h => h) (.inl ⟨by rfl, fun V hV => by obtain c0 := hV; go_simp⟩) hHeld ?_
      try simp only [Act.put, List.getElem_toArray, List.getElem_cons_zero, List.getElem_cons_succ, List.setIfInBounds_toArray, List.set_cons_zero, List.set_cons_succ]
      refine wpAnyH_take (i := 4) (v := .string ⟨s.toArray⟩) rfl (by kernel_rfl) (by kernel_rfl) (by kernel_rfl) (fun _ _ _ h => h) (.inl ⟨by rfl, fun V hV => by obtain c0 := hV; go_simp⟩) hHeld ?_
      try simp only [Act.put, List.getElem_toArray, List.getElem_cons_zero, List.getElem_cons_succ, List.setIfInBounds_toArray, List.set_cons_zero, List.set_cons_succ]
      refine wpAnyH_take (i := 5) (v := .slice (some ⟨sb, so, none⟩) n c) rfl (by kernel_rfl) (by kernel_rfl) (by kernel_rfl) (fun _ _ _ h => h) (.inl ⟨by rfl, fun V hV => by obtain c0 := hV; go_simp⟩) hHeld ?_
      try simp only [Act.put, List.getElem_toArray, List.getElem_cons_zero, List.getElem_cons_succ, List.setIfInBounds_toArray, List.set_cons_zero, List.set_cons_succ]
      refine wpAnyH_take (i := 6) (v := .int .i64 (k : Int)) rfl (by kernel_rfl) (by kernel_rfl) (by kernel_rfl) (fun _ _ _ h => h) (.inl ⟨by rfl, fun V hV => by obtain c0 := hV; go_simp⟩) hHeld ?_
      try simp only [Act.put, List.getElem_toArray, List.getElem_cons_zero, List.getElem_cons_succ, List.setIfInBounds_toArray, List.set_cons_zero, List.set_cons_succ]
      refine wpAnyH_take (i := 7) (v := .pointer (some ⟨sb, so + k, none⟩)) rfl (by kernel_rfl) (by kernel_rfl) (by kernel_rfl) (fun _ _ _ h => h) (.inl ⟨by rfl, fun V hV => by obtain c0 := hV; go_simp⟩) hHeld ?_
      try simp only [Act.put, List.getElem_toArray, List.getElem_cons_zero, List.getElem_cons_succ, List.setIfInBounds_toArray, List.set_cons_zero, List.set_cons_succ]
      refine wpAnyH_take (i := 8) (v := .string ⟨s.toArray⟩) rfl (by kernel_rfl) (by kernel_rfl) (by kernel_rfl) (fun _ _ _ h => h) (.inl ⟨by rfl, fun V hV => by obtain c0 := hV; go_simp⟩) hHeld ?_
      try simp only [Act.put, List.getElem_toArray, List.getElem_cons_zero, List.getElem_cons_succ, List.setIfInBounds_toArray, List.set_cons_zero, List.set_cons_succ]
      refine wpAnyH_take (i := 9) (v := .int .i64 (s.length : Int)) rfl (by kernel_rfl) (by kernel_rfl) (by kernel_rfl) (fun _ _ _ h => h) (.inl ⟨by rfl, fun V hV => by obtain c0 := hV; go_simp⟩) hHeld ?_
      try simp only [Act.put, List.getElem_toArray, List.getElem_cons_zero, List.getElem_cons_succ, List.setIfInBounds_toArray, List.set_cons_zero, List.set_cons_succ]
      refine wpAnyH_take (i := 10) (v := .int .i64 (min (s.length : Int) 40)) rfl (by kernel_rfl) (by kernel_rfl) (by kernel_rfl) (fun _ _ _ h => h) (.inl ⟨by rfl, fun V hV => by obtain c0 := hV; go_simp⟩) hHeld ?_
      try simp only [Act.put, List.getElem_toArray, List.getElem_cons_zero, List.getElem_cons_succ, List.setIfInBounds_toArray, List.set_cons_zero, List.set_cons_succ]
      refine wpAnyH_take (i := 11) (v := .string ⟨(s.take 40).toArray⟩) rfl (by kernel_rfl) (by kernel_rfl) (by kernel_rfl) (fun _ _ _ h => h) (.inl ⟨by rfl, fun V hV => by obtain c0 := hV; go_simp; rw [show (min (s.length : Int) 40).toNat = min s.length 40 by omega, text_cut, hmin, if_pos ⟨by omega, by omega⟩]⟩) hHeld ?_
      try simp only [Act.put, List.getElem_toArray, List.getElem_cons_zero, List.getElem_cons_succ, List.setIfInBounds_toArray, List.set_cons_zero, List.set_cons_succ]
      refine wpAnyH_ready (rs := [12]) (by kernel_rfl) (by simp) ?_
      refine AllReadyH.cons rfl (fun K hK => ?_) AllReadyH.nil
      go_simp
      refine hK.out _ _ t1 (fun hHeld => ?_)
      clear hK K
      try simp only [Act.put, List.getElem_toArray, List.getElem_cons_zero, List.getElem_cons_succ, List.setIfInBounds_toArray, List.set_cons_zero, List.set_cons_succ]
      refine wpAnyH_ready (rs := [13]) (by kernel_rfl) (by simp) ?_
      refine AllReadyH.cons rfl (fun K hK => ?_) AllReadyH.nil
      refine step_append_mine rfl (.tmp 15) (.tmp 27) 22 rfl w.heap.size 9 i0 (.string ⟨#[]⟩) 1 16 Tryz.underlying22 hi0 hz0 hz1 hz2 rfl (by decide) u3 (fewW (ss.take k)).length (strVs (fewW (ss.take k))) (by simp [Act.eval]) hown1 ⟨wr.drew.heap.size, 0, none⟩ 1 1 [.string ⟨(s.take 40).toArray⟩] (by simp [Act.eval]) rfl Hcs.out (by simp [Value.oneCell']) (by simp only [maxLen]; omega) (by omega) hbs ?_
      intro v' w5 hown5 hgrow
      have hb5 : Below w.heap.size w w5 := hb1.grown hgrow hb1.size (fun g hg => (row_data hown1 g hg).1)
      have t5 := (cellOf hb5 hsb).trans s0
      refine hK.out _ _ t5 (fun hHeld => ?_)
      clear hK K
      try simp only [Act.put, List.getElem_toArray, List.getElem_cons_zero, List.getElem_cons_succ, List.setIfInBounds_toArray, List.set_cons_zero, List.set_cons_succ]
      refine wpAnyH_take (i := 14) (v := v') rfl (by kernel_rfl) (by kernel_rfl) (by kernel_rfl) (fun _ _ _ h => h) (.inl ⟨by rfl, fun V hV => by obtain c0 := hV; go_simp⟩) hHeld ?_
      try simp only [Act.put, List.getElem_toArray, List.getElem_cons_zero, List.getElem_cons_succ, List.setIfInBounds_toArray, List.set_cons_zero, List.set_cons_succ]
      refine wpAnyH_done (by kernel_rfl) ?_ _
      refine NoPanic.normal ?_
      have hown6 : w5.ownsRow w.heap.size 9 1 v' (fewW (ss.take (k + 1))).length (strVs (fewW (ss.take (k + 1)))) := by
        rw [Hsucc.out]
        have : strVs (fewW (ss.take k) ++ [s.take 40]) = strVs (fewW (ss.take k)) ++ [.string ⟨(s.take 40).toArray⟩] := by simp [strVs]
        rw [this, List.length_append]
        exact hown5
      clear hHeld hown5 hown1 hown hgrow t1 t5 hbs
      go_wp2_with fail
      go_roundw
      case rel => exact ⟨k + 1, by omega, by omega, by go_num, hown6, hb5⟩
      case measure => simp [RowKit.intOf]; omega
    · have hall : fewW (ss.take k) = fewW ss := by
        unfold fewW
        rw [List.take_take]
        rcases Nat.lt_or_ge k 20 with h | h
        · have : k = n := by omega
          rw [Nat.min_eq_right (by omega), List.take_of_length_le (by rw [Hlen.out]; omega), List.take_of_length_le (by rw [Hlen.out]; omega)]
        · rw [Nat.min_eq_left (by omega)]
      rw [hall] at hown
      have hno : ∀ A' n' c', u3 = .slice A' n' c' → A' = none → n' = 0 ∧ c' = 0 := by
        intro A' n' c' e1 e2
        subst e1 e2
        rcases hown.2 with ⟨h, _⟩ | ⟨g, cap, cur, h, _⟩ <;> cases h
        exact ⟨rfl, rfl⟩
      obtain ⟨A', n', c', rfl, hn', hc', hS⟩ := slice_own hown
      have hno2 := hno _ _ _ rfl
      clear hno
      subst hn'
      have hcase : n ≤ k ∨ (k < n ∧ 20 ≤ k) := by omega
      clear hlt hall hown
      rcases hcase with h | ⟨h, h'⟩
      · go_wp2_with fail
        go_ret
        exact ⟨⟨A', _, c', rfl, hc', hS, hno2⟩, hb⟩
      · go_wp2_with fail
        go_ret
        exact ⟨⟨A', _, c', rfl, hc', hS, hno2⟩, hb⟩
end Go.Vir


/- viramalaw05: shown, cut. -/
namespace Go.Vir
open Go Go.RowKit Go.Proofs Go.Shelf
attribute [local go_sem] Oper.semAt_some

theorem take_min (s : List UInt8) (n : Nat) : s.take (min s.length n) = s.take n := by
  rcases Nat.le_total s.length n with h | h
  · rw [Nat.min_eq_left h, List.take_length, List.take_of_length_le h]
  · rw [Nat.min_eq_right h]
end Go.Vir


/- The rows of viramalaw09: from the listed variables to what the walks ask; a world that meets the condition; the wrap that keeps the world's shape. -/
namespace Go.Vir
open Go Go.RowKit Go.Proofs Go.ChangeShapes Go.WideShapes Go.ChangeAt Go.Proofs.YtjbeaheenfcgdaaGreatDoor

theorem returns_shaped {H : Type} {enc : TypeId × Value → H} {a : Assume} {C : Checked} {os : Os} {f : FuncId} {fn : Func} {s : ChangeSpec} {conds : List PathCond} {apart fresh handsOn again : Bool} {X : World → Array Value → Prop}
    (hX : ∀ (w w' : World) (args : Array Value), w.heap = w'.heap → X w args → X w' args)
    (own : ownKnob C.prog.godebug = none) (started : os.Started) (noInit : C.prog.inits.idxOf? f = none) (hfn : C.prog.funcs[f]? = some fn)
    (witness : ∃ (w : World) (tape : Tape) (i : Input), w.os = os ∧ (w.forCall tape i).Shaped C.prog ∧ i.vars = [] ∧ Input.okWide C.prog (w.forCall tape i) .any w.heap.size f i ∧
      ((s.pre enc C.prog fn conds apart (w.forCall tape i).memory i.args ∧ X (w.forCall tape i).memory i.args) ∧ sizedMet enc C.prog fn (OpenSpec.ofChange s) apart (w.forCall tape i).memory i.args) ∧ a.holds C.prog (lone (Frame.enter C.prog f i.args .normal) [] (w.forCall tape i)))
    (contract : ∀ (W : World) (base : Nat) (args : Array Value) (ds gs : List (DataW H)) (before : List MemPlace),
      (∀ (j : Nat) t v, fn.params[j]? = some t → args[j]? = some v → Value.okWide C.prog W .any base t v) →
      DataW.Whole enc C.prog fn.params.toList s.vars apart W args.toList ds gs before →
      W.ShapedOpen C.prog → X W args →
      Calls C.prog f args W fun e W' => ∃ v, e = .returned v ∧ s.post enc C.prog fn apart fresh handsOn again W args v W') :
    ReturnsInHanded a C os f .any (fun w args => (s.pre enc C.prog fn conds apart w args ∧ X w args) ∧ sizedMet enc C.prog fn (OpenSpec.ofChange s) apart w args) (s.post enc C.prog fn apart fresh handsOn again) := by
  refine returnsInHanded_of_calls own started noInit witness ?_
  intro w tape i _ hsh _ hok hpre hholds
  obtain ⟨_, _, _, fn', hfn', _, _, _, _, hval⟩ := hok
  have e : fn' = fn := Option.some.inj (hfn'.symm.trans hfn)
  subst e
  obtain ⟨⟨⟨ds, gs, before, hw, hc⟩, hx⟩, hz⟩ := hpre
  have hw' := DataW.Whole.of_heap (w' := w.forCall tape i) (by rfl) hw
  refine (contract (w.forCall tape i) w.heap.size i.args ds gs before hval hw' hsh (hX _ _ _ (by rfl) hx)).mono fun e W' ⟨v, he, hp⟩ => ?_
  subst he
  exact ChangeSpec.post_blind hp

theorem own : ownKnob Tryz.prog.godebug = none := by kernel_rfl
theorem laidOut : laidOutB Tryz.prog = true := by kernel_rfl
theorem gErr : Tryz.prog.globalNamed "errors.errorType" = some 7 := by kernel_rfl
theorem rtypeOne : (Tryz.prog.cutTypes.find? (·.1 == "internal/reflectlite.rtype")).map (·.2) = some 233 := by kernel_rfl
theorem errorOne : ((List.range Tryz.prog.types.size).filter fun t => Tryz.prog.rowNamed t [101, 114, 114, 111, 114]) = [67] := by kernel_rfl
theorem errHandle : typeHandle Tryz.prog 67 = .pointer (some ⟨12, 67, none⟩) := by kernel_rfl
theorem star_err : "*" ++ "errors.errorString" = "*errors.errorString" := by decide
theorem rowErr (u : TypeId) (h : Tryz.prog.typeName? 3 u = some "*errors.errorString") : u = 324 :=
  typeName_ptr_named (nm := "errors.errorString") (by rw [star_err]; kernel_rfl) (by kernel_rfl) (by decide) u (by rw [star_err]; exact h)
theorem cellsEs : Tryz.prog.cellsOf 343 = 1 := by kernel_rfl
theorem cellsStr : Tryz.prog.cellsOf 9 = 1 := by kernel_rfl

theorem mlen_of_shaped {W : World} (h : W.ShapedOpen Tryz.prog) : ∃ m, W.cell? ⟨9, 0, none⟩ = some (.int .i64 m) :=
  cell_of_shapedOpen_int (t := 3) (zero := #[.int .i64 0]) h (by decide +kernel) (by kernel_rfl) rfl (by kernel_rfl) (by kernel_rfl) (by kernel_rfl)

theorem size_of_shaped {W : World} (h : W.ShapedOpen Tryz.prog) : 12 ≤ W.heap.size := by
  have h0 : (((begin Tryz.prog (fun _ _ => 0) default).world.heap[12 - 1]?).bind Obj.row?).isSome = true := by kernel_rfl
  obtain ⟨⟨z, t⟩, hz⟩ := Option.isSome_iff_exists.1 h0
  obtain ⟨cs, hh, _, _⟩ := h.1 (12 - 1) z t (by decide +kernel) hz
  have := (Array.getElem?_eq_some_iff.1 hh).1
  omega

/-- A world that meets the condition. -/
noncomputable def world0 (os : Os) : World :=
  let w0 := World.holding Tryz.prog os ⟨#[], #[], []⟩
  { w0 with heap := w0.heap.modify 7 fun
      | .cells _ t frozen => .cells #[.iface 233 (.agg #[.pointer (some ⟨12, 67, none⟩)])] t frozen
      | o => o }
end Go.Vir


/- The rows of viramalaw05: from the listed variables to what the walks ask; a world that meets the condition. -/
namespace Go.Vir
open Go Go.RowKit Go.Proofs Go.ChangeShapes Go.WideShapes Go.ChangeAt Go.Proofs.YtjbeaheenfcgdaaGreatDoor

theorem gPrf : Tryz.prog.globalNamed "virama/prop.errFile" = some 1 := by kernel_rfl
theorem tPrf : (Tryz.prog.globals[1]?).map (·.type) = some 67 := by kernel_rfl
end Go.Vir


/- The rows of viramalaw09: a pattern, numbers that come in. -/
namespace Go.Vir
open Go Go.RowKit Go.Proofs Go.ChangeShapes Go.WideShapes Go.ChangeAt

theorem list_of_each {α : Type} {Q : Nat → α → Prop} : ∀ (n : Nat), (∀ i, i < n → ∃ x, Q i x) → ∃ l : List α, l.length = n ∧ ∀ i (h : i < l.length), Q i l[i]
  | 0, _ => ⟨[], rfl, fun i h => absurd h (by simp)⟩
  | n + 1, h => by
    obtain ⟨l, hl, hq⟩ := list_of_each n (fun i hi => h i (by omega))
    obtain ⟨x, hx⟩ := h n (by omega)
    refine ⟨l ++ [x], by simp [hl], fun i hi => ?_⟩
    rcases Nat.lt_or_ge i n with h1 | h1
    · rw [List.getElem_append_left (by omega)]; exact hq i (by omega)
    · have : i = n := by simp [hl] at hi; omega
      subst this
      rw [List.getElem_append_right (by omega)]
      simpa [hl] using hx

theorem ints_opened {W : World} {a : Addr} {len cap : Nat} {zs : List Int} (hl : len ≤ cap) (hz : zs.length = cap)
    (hc : ∀ i, i < zs.length → W.cell? (a.add i) = some (.int .i64 (zs.getD i 0))) : Ints W W.heap.size (some a) len (zs.take len) := by
  have hlen : (zs.take len).length = len := by simp; omega
  refine ⟨hlen, fun h0 => ?_⟩
  obtain ⟨b, o, sp⟩ := a
  have h1 := hc 0 (by omega)
  have hsp : sp = none := by
    cases sp with
    | none => rfl
    | some x => 
      simp only [Addr.add, if_pos, World.cell?] at h1
      split at h1 <;> simp at h1
  subst hsp
  have hb : b < W.heap.size := by
    rcases Nat.lt_or_ge b W.heap.size with h | h
    · exact h
    · simp [World.cell?, Addr.add, Array.getElem?_eq_none h] at h1
  refine ⟨b, o, rfl, hb, fun j hj => ?_⟩
  have hj2 : j < zs.length := by omega
  have h2 := hc j hj2
  have e : (Addr.add ⟨b, o, none⟩ j) = ⟨b, o + j, none⟩ := by
    unfold Addr.add
    split <;> simp_all
  rw [e] at h2
  rw [h2]
  simp [List.getD, hj2]

end Go.Vir


/- The rows of viramalaw15: from the listed variables to what the walks ask; a world that meets the condition. -/
namespace Go.Vir
open Go Go.RowKit Go.Proofs Go.ChangeShapes Go.WideShapes Go.ChangeAt Go.Proofs.YtjbeaheenfcgdaaGreatDoor

theorem gXSs : Tryz.prog.globalNamed "virama/scalar.errScalar" = some 5 := by kernel_rfl
theorem tXSs : (Tryz.prog.globals[5]?).map (·.type) = some 67 := by kernel_rfl
theorem gXSu : Tryz.prog.globalNamed "virama/scalar.errUtf" = some 6 := by kernel_rfl
theorem tXSu : (Tryz.prog.globals[6]?).map (·.type) = some 67 := by kernel_rfl
theorem gXWw : Tryz.prog.globalNamed "virama/width.errWidth" = some 3 := by kernel_rfl
theorem tXWw : (Tryz.prog.globals[3]?).map (·.type) = some 67 := by kernel_rfl
theorem gXWs : Tryz.prog.globalNamed "virama/width.errScalar" = some 0 := by kernel_rfl
theorem tXWs : (Tryz.prog.globals[0]?).map (·.type) = some 67 := by kernel_rfl
theorem gXWu : Tryz.prog.globalNamed "virama/width.errUtf" = some 4 := by kernel_rfl
theorem tXWu : (Tryz.prog.globals[4]?).map (·.type) = some 67 := by kernel_rfl
/-- What the rows list. -/
def laidW : List (String × DataW Unit) := [("unicode/utf8.acceptRanges", Rows.laid_unicode_utf8_acceptRanges), ("errors.errorType", Rows.laid_errors_errorType), ("virama/scalar.errScalar", Rows.laid_virama_scalar_errScalar), ("virama/scalar.errUtf", Rows.laid_virama_scalar_errUtf), ("virama/prop.errFile", Rows.laid_virama_prop_errFile), ("virama/trie.errTrie", Rows.laid_virama_trie_errTrie), ("virama/trie.errRange", Rows.laid_virama_trie_errRange), ("virama/width.errWidth", Rows.laid_virama_width_errWidth), ("virama/width.errScalar", Rows.laid_virama_width_errScalar), ("virama/width.errUtf", Rows.laid_virama_width_errUtf), ("unicode/utf8.first", Rows.laid_unicode_utf8_first)]
def laidX : List (String × DataW Unit) := [("unicode/utf8.acceptRanges", Rows.laid_unicode_utf8_acceptRanges), ("virama/scalar.errScalar", Rows.laid_virama_scalar_errScalar), ("virama/scalar.errUtf", Rows.laid_virama_scalar_errUtf), ("virama/prop.errFile", Rows.laid_virama_prop_errFile), ("virama/trie.errTrie", Rows.laid_virama_trie_errTrie), ("virama/trie.errRange", Rows.laid_virama_trie_errRange), ("virama/width.errWidth", Rows.laid_virama_width_errWidth), ("virama/width.errScalar", Rows.laid_virama_width_errScalar), ("virama/width.errUtf", Rows.laid_virama_width_errUtf), ("unicode/utf8.first", Rows.laid_unicode_utf8_first)]
theorem laidW_split : (laidW.filter fun x => x.2.handleName?.isNone) = laidX := by rfl
theorem laidW_hand : (laidW.filter fun x => x.2.handleName?.isSome) = [("errors.errorType", Rows.laid_errors_errorType)] := by rfl

set_option maxRecDepth 100000 in
set_option maxHeartbeats 2000000 in
theorem gloW_of_laid {W : World} (hs : W.ShapedOpen Tryz.prog) (h : laidMetH Tryz.prog laidW W) : ∃ p q u p2 q2, GloW W p q u p2 q2 := by
  unfold laidMetH at h
  rw [laidW_split, laidW_hand] at h
  obtain ⟨⟨ps, ⟨g0, t0, cs0, f0, p0, q0, hg0, ht0, hv0, hd0, ⟨g1, t1, cs1, f1, p1, q1, hg1, ht1, hv1, hd1, ⟨g2, t2, cs2, f2, p2, q2, hg2, ht2, hv2, hd2, ⟨g3, t3, cs3, f3, p3, q3, hg3, ht3, hv3, hd3, ⟨g4, t4, cs4, f4, p4, q4, hg4, ht4, hv4, hd4, ⟨g5, t5, cs5, f5, p5, q5, hg5, ht5, hv5, hd5, ⟨g6, t6, cs6, f6, p6, q6, hg6, ht6, hv6, hd6, ⟨g7, t7, cs7, f7, p7, q7, hg7, ht7, hv7, hd7, ⟨g8, t8, cs8, f8, p8, q8, hg8, ht8, hv8, hd8, hrest, e8⟩, e7⟩, e6⟩, e5⟩, e4⟩, e3⟩, e2⟩, e1⟩, e0⟩, _, hrows⟩, hh⟩ := h
  obtain rfl := Option.some.inj (gXSs.symm.trans hg1)
  obtain rfl := Option.some.inj (tXSs.symm.trans ht1)
  obtain rfl := Option.some.inj (gXSu.symm.trans hg2)
  obtain rfl := Option.some.inj (tXSu.symm.trans ht2)
  obtain rfl := Option.some.inj (gPrf.symm.trans hg3)
  obtain rfl := Option.some.inj (tPrf.symm.trans ht3)
  obtain rfl := Option.some.inj (gXWw.symm.trans hg6)
  obtain rfl := Option.some.inj (tXWw.symm.trans ht6)
  obtain rfl := Option.some.inj (gXWs.symm.trans hg7)
  obtain rfl := Option.some.inj (tXWs.symm.trans ht7)
  obtain rfl := Option.some.inj (gXWu.symm.trans hg8)
  obtain rfl := Option.some.inj (tXWu.symm.trans ht8)
  obtain ⟨name, u, ty, n1, n2, n3, n4, n5⟩ := hh _ (List.mem_singleton.2 rfl)
  have en : name = [101, 114, 114, 111, 114] := (Option.some.inj n1).symm
  subst en
  obtain rfl := Option.some.inj (rtypeOne.symm.trans n2)
  have hm : ty ∈ (List.range Tryz.prog.types.size).filter fun t => Tryz.prog.rowNamed t [101, 114, 114, 111, 114] := List.mem_filter.2 ⟨List.mem_range.2 n3, n4⟩
  rw [errorOne] at hm
  obtain rfl := List.mem_singleton.1 hm
  rw [errHandle] at n5
  obtain ⟨l1⟩ := cs1
  obtain ⟨l2⟩ := cs2
  obtain ⟨l3⟩ := cs3
  obtain ⟨l6⟩ := cs6
  obtain ⟨l7⟩ := cs7
  obtain ⟨l8⟩ := cs8
  subst e8
  subst e7
  subst e6
  subst e5
  subst e4
  subst e3
  subst e2
  subst e1
  subst e0
  have ok1 : ∀ u v, l1 = [.iface u v] → Value.okWide Tryz.prog W .any 0 u v := fun u v e => by
    subst e
    exact (hrows 5 0 (by simp [MemPlace.row])).2 u v (by simpa using World.var?_cell hg1 hv1 0)
  have ok2 : ∀ u v, l2 = [.iface u v] → Value.okWide Tryz.prog W .any 0 u v := fun u v e => by
    subst e
    exact (hrows 6 0 (by simp [MemPlace.row])).2 u v (by simpa using World.var?_cell hg2 hv2 0)
  have ok3 : ∀ u v, l3 = [.iface u v] → Value.okWide Tryz.prog W .any 0 u v := fun u v e => by
    subst e
    exact (hrows 1 0 (by simp [MemPlace.row])).2 u v (by simpa using World.var?_cell hg3 hv3 0)
  have ok6 : ∀ u v, l6 = [.iface u v] → Value.okWide Tryz.prog W .any 0 u v := fun u v e => by
    subst e
    exact (hrows 3 0 (by simp [MemPlace.row])).2 u v (by simpa using World.var?_cell hg6 hv6 0)
  have ok7 : ∀ u v, l7 = [.iface u v] → Value.okWide Tryz.prog W .any 0 u v := fun u v e => by
    subst e
    exact (hrows 0 0 (by simp [MemPlace.row])).2 u v (by simpa using World.var?_cell hg7 hv7 0)
  have ok8 : ∀ u v, l8 = [.iface u v] → Value.okWide Tryz.prog W .any 0 u v := fun u v e => by
    subst e
    exact (hrows 4 0 (by simp [MemPlace.row])).2 u v (by simpa using World.var?_cell hg8 hv8 0)
  obtain ⟨a1, s1, rfl, hc1, hs1, _, rfl⟩ := errorString_of_trod Tryz.underlying67 rowErr Tryz.underlying324 Tryz.underlying343 rfl rfl Tryz.underlying9 cellsEs cellsStr hd1 ok1
  obtain ⟨a2, s2, rfl, hc2, hs2, _, rfl⟩ := errorString_of_trod Tryz.underlying67 rowErr Tryz.underlying324 Tryz.underlying343 rfl rfl Tryz.underlying9 cellsEs cellsStr hd2 ok2
  obtain ⟨a3, s3, rfl, hc3, hs3, _, rfl⟩ := errorString_of_trod Tryz.underlying67 rowErr Tryz.underlying324 Tryz.underlying343 rfl rfl Tryz.underlying9 cellsEs cellsStr hd3 ok3
  obtain ⟨a6, s6, rfl, hc6, hs6, _, rfl⟩ := errorString_of_trod Tryz.underlying67 rowErr Tryz.underlying324 Tryz.underlying343 rfl rfl Tryz.underlying9 cellsEs cellsStr hd6 ok6
  obtain ⟨a7, s7, rfl, hc7, hs7, _, rfl⟩ := errorString_of_trod Tryz.underlying67 rowErr Tryz.underlying324 Tryz.underlying343 rfl rfl Tryz.underlying9 cellsEs cellsStr hd7 ok7
  obtain ⟨a8, s8, rfl, hc8, hs8, _, rfl⟩ := errorString_of_trod Tryz.underlying67 rowErr Tryz.underlying324 Tryz.underlying343 rfl rfl Tryz.underlying9 cellsEs cellsStr hd8 ok8
  have b1 := (hrows a1.block a1.off (by simp [MemPlace.row])).1
  have b2 := (hrows a2.block a2.off (by simp [MemPlace.row])).1
  have b6 := (hrows a6.block a6.off (by simp [MemPlace.row])).1
  have b7 := (hrows a7.block a7.off (by simp [MemPlace.row])).1
  have b8 := (hrows a8.block a8.off (by simp [MemPlace.row])).1
  have n21 : a2 ≠ a1 := fun e => by
    rw [e] at hc2
    have h1 := Value.string.inj (Option.some.inj (hc2.symm.trans hc1))
    rw [h1, hs1] at hs2
    exact absurd hs2 (by decide)
  have n76 : a7 ≠ a6 := fun e => by
    rw [e] at hc7
    have h1 := Value.string.inj (Option.some.inj (hc7.symm.trans hc6))
    rw [h1, hs6] at hs7
    exact absurd hs7 (by decide)
  have n86 : a8 ≠ a6 := fun e => by
    rw [e] at hc8
    have h1 := Value.string.inj (Option.some.inj (hc8.symm.trans hc6))
    rw [h1, hs6] at hs8
    exact absurd hs8 (by decide)
  have n87 : a8 ≠ a7 := fun e => by
    rw [e] at hc8
    have h1 := Value.string.inj (Option.some.inj (hc8.symm.trans hc7))
    rw [h1, hs7] at hs8
    exact absurd hs8 (by decide)
  have hsz := size_of_shaped hs
  exact ⟨a6, a7, a8, a2, a1, ⟨⟨mlen_of_shaped hs, (Nat.lt_of_lt_of_le (by decide) hsz), by simpa using World.var?_cell gErr n5 0, (Nat.lt_of_lt_of_le (by decide) hsz)⟩, ⟨_, by simpa using World.var?_cell gPrf hv3 0⟩, (Nat.lt_of_lt_of_le (by decide) hsz)⟩,
    ⟨(by simpa using World.var?_cell gXWw hv6 0), (by simpa using World.var?_cell gXWs hv7 0), (by simpa using World.var?_cell gXWu hv8 0), (Nat.lt_of_lt_of_le (by decide) hsz), (Nat.lt_of_lt_of_le (by decide) hsz), (Nat.lt_of_lt_of_le (by decide) hsz), b6, b7, b8, n76, n86, n87⟩,
    ⟨(by simpa using World.var?_cell gXSu hv2 0), (by simpa using World.var?_cell gXSs hv1 0), (Nat.lt_of_lt_of_le (by decide) hsz), (Nat.lt_of_lt_of_le (by decide) hsz), b2, b1, n21⟩⟩

noncomputable def worldW (os : Os) : World := (world0 os).layVars Tryz.prog laidX
theorem worldW_os (os : Os) : (worldW os).os = os := World.layVars_os _ _ _
theorem worldW_metX (os : Os) (args : Array Value) : laidMet Tryz.prog laidX ((worldW os).forCall (fun _ _ => 0) ⟨#[], args, []⟩).memory := by
  have h : laidMet Tryz.prog laidX (worldW os) := laidMet_layVars (w0 := world0 os) (laidX.map (·.1)) [] (by rfl) (by kernel_rfl) (by kernel_rfl) LaidIn.none
  exact h.of_heap (by simp [World.memory, World.forCall, Input.heap])
theorem worldW_met (os : Os) (args : Array Value) : laidMetH Tryz.prog laidW ((worldW os).forCall (fun _ _ => 0) ⟨#[], args, []⟩).memory :=
  laidMetH_of_parts (by rw [laidW_split]; exact worldW_metX os args) (by kernel_rfl)
theorem worldW_shaped (os : Os) : (worldW os).Shaped Tryz.prog := World.shaped_of_ZipB (by kernel_rfl) (by kernel_rfl)

/-! Widths that come in. -/
theorem cells_one {W : World} {a : Addr} {cs : List Value} (h : W.cells? 0 a 1 = some cs) : ∃ x, cs = [x] ∧ W.cell? a = some x := by
  unfold World.cells? at h
  have e0 : a.add 0 = a := by simp [Addr.add]
  split at h
  · simp only [List.range_succ, List.range_zero, List.nil_append, List.mapM_cons, List.mapM_nil, e0] at h
    rcases h0 : W.cell? a with _ | x0
    · simp [h0] at h
    · simp [h0] at h
      exact ⟨x0, h.symm, rfl⟩
  · cases h
set_option maxRecDepth 100000 in
theorem ints_cell {H : Type} {enc : TypeId × Value → H} {W : World} {x : Value} {fuel : Nat} {y : DataW H × List MemPlace} (h : DataW.trod enc Tryz.prog W 0 (fun _ => true) true fuel 37 [x] = some y) :
    ∃ A n c l, x = .slice A n c ∧ n ≤ c ∧ n ≤ 9223372036854775807 ∧ Ints W W.heap.size A n l := by
  obtain ⟨d, p⟩ := y
  rcases open_ints Tryz.underlying37 Tryz.underlying3 (by kernel_rfl) h with ⟨hcs, hx⟩ | ⟨a, len', cap', zs, hcs, _, hl, hmx, hz, hx, hcell, _⟩
  · obtain rfl : x = .slice none 0 0 := by simpa using hcs
    exact ⟨_, _, _, [], rfl, Nat.le_refl _, by omega, Ints.nil _ _ _⟩
  · obtain rfl : x = .slice (some a) len' cap' := by simpa using hcs
    unfold maxLen at hmx
    exact ⟨_, _, _, _, rfl, hl, by omega, ints_opened hl (by simpa using hz) hcell⟩
set_option maxRecDepth 100000 in
theorem open_widths {H : Type} {enc : TypeId × Value → H} {W : World} {base : Nat} {v : Value} {d : DataW H} {p : List MemPlace}
    (hval : Value.okWide Tryz.prog W .any base 42 v) (h : DataW.Trod enc Tryz.prog W 0 (fun _ => true) true 42 v d p) :
    ∃ Ai ni ci Ab nb cb wd T, v = .agg #[.slice Ai ni ci, .slice Ab nb cb, .bool wd] ∧ ni ≤ ci ∧ ni ≤ 9223372036854775807 ∧ nb ≤ 9223372036854775807 ∧ (∀ b ∈ T.bl, b.length ≤ 9223372036854775807) ∧ Tri W W.heap.size Ai ni Ab nb T := by
  unfold Value.okWide at hval
  simp only [Tryz.underlying42] at hval
  obtain ⟨cs, rfl, hsz, _⟩ := hval
  obtain ⟨fuel, hf⟩ := h
  obtain ⟨y0, y1, n, hx, hl, h0, h1⟩ := trod_struct2 Tryz.underlying42 hf
  have c3 : Tryz.prog.cellsOf 42 = 3 := by kernel_rfl
  have c2 : Tryz.prog.cellsOf 40 = 2 := by kernel_rfl
  have cb1 : Tryz.prog.cellsOf 4 = 1 := by kernel_rfl
  have ci1 : Tryz.prog.cellsOf 37 = 1 := by kernel_rfl
  have cii : Tryz.prog.cellsOf 38 = 1 := by kernel_rfl
  rw [c3] at hsz
  have hcs : cs = #[cs[0], cs[1], cs[2]] := by
    apply Array.ext
    · simpa using hsz
    · intro i h1 h2
      match i, h2 with
      | 0, _ => rfl
      | 1, _ => rfl
      | 2, _ => rfl
  generalize cs[0] = x0 at hcs
  generalize cs[1] = x1 at hcs
  generalize cs[2] = x2 at hcs
  subst hcs
  clear hsz hl hf hx
  have h0' : DataW.trod enc Tryz.prog W 0 (fun _ => true) true n 40 [x0, x1] = some y0 := by
    have := h0
    simp only [Value.cells, c2] at this
    exact this
  have h1' : DataW.trod enc Tryz.prog W 0 (fun _ => true) true n 4 [x2] = some y1 := by
    have := h1
    simp only [Value.cells, cb1] at this
    exact this
  obtain ⟨wd, e2, _⟩ := DataW.trod_bool Tryz.underlying4 h1'
  obtain rfl : x2 = .bool wd := by simpa using e2
  obtain ⟨z0, z1, n2, _, _, k0, k1⟩ := trod_struct2 Tryz.underlying40 h0'
  have k0' : DataW.trod enc Tryz.prog W 0 (fun _ => true) true n2 37 [x0] = some z0 := by
    have := k0
    simp only [ci1] at this
    exact this
  have k1' : DataW.trod enc Tryz.prog W 0 (fun _ => true) true n2 38 [x1] = some z1 := by
    have := k1
    simp only [cii] at this
    exact this
  obtain ⟨Ai, ni, ci, l, rfl, hic, hni, hI⟩ := ints_cell k0'
  rcases DataW.trod_slice Tryz.underlying38 k1' with ⟨e1, _⟩ | ⟨a, len, cap, elems, rest, n', _, e1, _, _, hlc, hmx, hlen, hel, _, _⟩
  · obtain rfl : x1 = .slice none 0 0 := by simpa using e1
    exact ⟨Ai, ni, ci, none, 0, 0, wd, { ix := l, bl := [] }, rfl, hic, hni, by omega, by simp, hI, Intss.nil _ _ _⟩
  · obtain rfl : x1 = .slice (some a) len cap := by simpa using e1
    have each : ∀ i, i < len → ∃ b : List Int, ∃ A' n' c', W.cell? (a.add i) = some (.slice A' n' c') ∧ n' ≤ c' ∧ b.length ≤ 9223372036854775807 ∧ Ints W W.heap.size A' n' b := by
      intro i hi
      have h2 := hel i hi
      rw [ci1, Nat.mul_one, List.getElem?_eq_getElem (by omega)] at h2
      obtain ⟨cs2, hc2, h3⟩ := Option.bind_eq_some_iff.1 h2
      obtain ⟨x, rfl, hx⟩ := cells_one hc2
      obtain ⟨A', m, c', b, rfl, q1, q2, q3⟩ := ints_cell h3
      exact ⟨b, A', m, c', hx, q1, by rw [q3.len]; exact q2, q3⟩
    obtain ⟨bs, hbl, hbs⟩ := list_of_each len each
    unfold maxLen at hmx
    refine ⟨Ai, ni, ci, some a, len, cap, wd, { ix := l, bl := bs }, rfl, hic, hni, by omega, fun b hb => ?_, hI, hbl, fun hpos => ?_⟩
    · obtain ⟨i, hi, rfl⟩ := List.getElem_of_mem hb
      obtain ⟨_, _, _, _, _, q, _⟩ := hbs i hi
      exact q
    · obtain ⟨b, o, sp⟩ := a
      obtain ⟨A', m, c', hsp, _⟩ := hbs 0 (by omega)
      have hs2 : sp = none := by
        cases sp with
        | none => rfl
        | some q =>
          simp only [Addr.add, if_pos, World.cell?] at hsp
          split at hsp <;> simp at hsp
      subst hs2
      have hb : b < W.heap.size := by
        rcases Nat.lt_or_ge b W.heap.size with hh | hh
        · exact hh
        · simp [World.cell?, Addr.add, Array.getElem?_eq_none hh] at hsp
      refine ⟨b, o, rfl, hb, fun j hj => ?_⟩
      have hadd : ∀ o k, (Addr.add ⟨b, o, none⟩ k) = ⟨b, o + k, none⟩ := fun o k => by
        unfold Addr.add
        split <;> simp_all
      obtain ⟨A', m, c', k0, k1, _, k3⟩ := hbs j hj
      rw [hadd] at k0
      exact ⟨A', m, c', k0, k3, k1⟩
end Go.Vir


/- Rows: texts that come in. -/
namespace Go.Vir
open Go Go.RowKit Go.Proofs Go.ChangeShapes Go.WideShapes Go.ChangeAt

theorem strs_opened {W : World} {a : Addr} {len cap : Nat} {ss : List ByteArray} (hl : len ≤ cap) (hz : ss.length = cap)
    (hc : ∀ i, i < ss.length → W.cell? (a.add i) = some (.string (ss.getD i ByteArray.empty))) : Strs W W.heap.size (some a) len ((ss.take len).map (·.data.toList)) := by
  have hlen : ((ss.take len).map (·.data.toList)).length = len := by simp; omega
  refine ⟨hlen, fun h0 => ?_⟩
  obtain ⟨b, o, sp⟩ := a
  have h1 := hc 0 (by omega)
  have hsp : sp = none := by
    cases sp with
    | none => rfl
    | some x =>
      simp only [Addr.add, if_pos, World.cell?] at h1
      split at h1 <;> simp at h1
  subst hsp
  have hb : b < W.heap.size := by
    rcases Nat.lt_or_ge b W.heap.size with h | h
    · exact h
    · simp [World.cell?, Addr.add, Array.getElem?_eq_none h] at h1
  refine ⟨b, o, rfl, hb, fun j hj => ?_⟩
  rw [hlen] at hj
  have hj2 : j < ss.length := by omega
  have h2 := hc j hj2
  have e : (Addr.add ⟨b, o, none⟩ j) = ⟨b, o + j, none⟩ := by
    unfold Addr.add
    split <;> simp_all
  rw [e] at h2
  rw [h2]
  simp [List.getD, hj2]

set_option maxRecDepth 100000 in
theorem open_texts {H : Type} {enc : TypeId × Value → H} {W : World} {base : Nat} {v : Value} {d : DataW H} {p : List MemPlace}
    (hval : Value.okWide Tryz.prog W .any base 22 v) (h : DataW.Trod enc Tryz.prog W 0 (fun _ => true) true 22 v d p) :
    ∃ A n c ss, v = .slice A n c ∧ n ≤ 9223372036854775807 ∧ Strs W W.heap.size A n ss := by
  obtain ⟨a0, len, cap, rfl⟩ := okWide_slice Tryz.underlying22 hval
  obtain ⟨fuel, hf⟩ := h
  rcases open_strings Tryz.underlying22 Tryz.underlying9 (by kernel_rfl) hf with ⟨hcs, hx⟩ | ⟨a, len', cap', ss, hcs, _, hl, hm, hz, hx, hcell, _⟩
  · simp [Value.cells] at hcs
    obtain ⟨rfl, rfl, rfl⟩ := hcs
    exact ⟨_, _, _, [], rfl, by omega, Strs.nil _ _ _⟩
  · simp [Value.cells] at hcs
    obtain ⟨rfl, rfl, rfl⟩ := hcs
    unfold maxLen at hm
    exact ⟨_, _, _, _, rfl, by omega, strs_opened hl (by simpa using hz) hcell⟩

set_option maxRecDepth 100000 in
theorem open_text {H : Type} {enc : TypeId × Value → H} {W : World} {base : Nat} {v : Value} {d : DataW H} {p : List MemPlace}
    (hval : Value.okWide Tryz.prog W .any base 9 v) (h : DataW.Trod enc Tryz.prog W 0 (fun _ => true) true 9 v d p) :
    ∃ s : List UInt8, v = .string ⟨s.toArray⟩ ∧ s.length ≤ 9223372036854775807 := by
  obtain ⟨s, rfl, _, _, hs⟩ := Go.ChangeMaps.open_string Tryz.underlying9 hval h
  refine ⟨s.data.toList, by simp, ?_⟩
  unfold maxLen at hs
  have : s.size = s.data.toList.length := Lib.size_eq s
  omega
end Go.Vir


/- Rows of six arguments. No program. -/
namespace Go.Vir
open Go Go.RowKit Go.ChangeShapes
section
variable {H : Type} {enc : TypeId × Value → H} {P : Program} {w : World} {base : Nat} {spare : Nat → Bool} {held : Bool}
end
theorem and_mk {a b : Bool} (h1 : a = true) (h2 : b = true) : (a && b) = true := by rw [h1, h2]; rfl
end Go.Vir


/- The walks of the references: viramaref15.Fit. -/
namespace Go.Vir
open Go Go.RowKit Go.Proofs
attribute [local go_sem] Oper.semAt_some

set_option maxRecDepth 100000 in
set_option maxHeartbeats 4000000 in
theorem ref15_Fit (Ai : Option Addr) (ni ci : Nat) (Ab : Option Addr) (nb cb : Nat) (wd : Bool) (T : TrV) (A : Option Addr) (n c : Nat) (mx : Int) (cs : List (List UInt8)) (w : World) (hT : Tri w w.heap.size Ai ni Ab nb T) (hi : ni ≤ 1000000) (hnb : nb ≤ 1000000) (hbs : ∀ b ∈ T.bl, b.length ≤ 1000000)
    (hx : Strs w w.heap.size A n cs) (hn : n ≤ 1000000) (hcs : ∀ x ∈ cs, x.length ≤ 1000000) :
    Calls Tryz.prog 43 #[.agg #[.slice Ai ni ci, .slice Ab nb cb, .bool wd], .slice A n c, .int .i64 mx] w fun e w' => e = .returned (.tuple #[.int .i64 (fitsW T wd cs mx).1, .int .i64 (fitsW T wd cs mx).2]) ∧ Below w.heap.size w w' := by
  obtain ⟨W0, hW0⟩ : ∃ W0, W0 = w.alloc (.cells #[.slice Ai ni ci, .slice Ab nb cb, .bool wd] 42) := ⟨_, rfl⟩
  have hbw : Below w.heap.size w W0 := by rw [hW0]; go_grown
  have hx0 : W0.heap[w.heap.size]? = some (.cells #[.slice Ai ni ci, .slice Ab nb cb, .bool wd] 42 (0, 0)) := by rw [hW0]; exact heap_new rfl
  have e0 := cell_blk hx0 0
  have e1 := cell_blk hx0 1
  have e2 := cell_blk hx0 2
  have hck := ref15_checked Ai ni ci Ab nb cb wd T A n c cs W0 ((hT.below hbw).more hbw.size) hi hnb hbs ((hx.below hbw).more hbw.size) hn hcs
  have Hck := Lib.hid hck
  have Hbw := Lib.hid hbw
  have HX := Lib.hid hx0
  have HT := Lib.hid ((hT.below hbw).more hbw.size)
  have Hx := Lib.hid hx
  have Hlen := Lib.hid hx.len
  have Hcs := Lib.hid hcs
  clear hck hbw hx0 hT hx hcs
  go_enter Tryz.func43, Tryz.ntmps43
  go_upto_region 1 with fail
  rw [← hW0]
  clear hW0
  go_wp2_with fail
  refine Hck.out.mono ?_
  rintro e w1 ⟨rfl, hb1⟩
  have Hbf := Lib.hid (Hbw.out.trans (hb1.mono Hbw.out.size))
  have Hb1 := Lib.hid hb1
  clear hb1 e0 e1 e2
  rcases Int.decEq (chkW T cs) 0 with hc | hc
  · have Ho := Lib.hid (fitsW_bad (wd := wd) (n := mx) rfl hc)
    have hcb : (chkW T cs == 0) = false := beq_eq_false_iff_ne.2 hc
    have hcn : (chkW T cs != 0) = true := by simp [hc]
    have hbf := Hbf.out
    go_wp2_with fail
    go_ret2
    exact ⟨by rw [Ho.out]; rfl, hbf⟩
  · have hR : rightW T = true := by
      unfold chkW at hc
      split at hc
      · assumption
      · cases hc
    have hrr := right_of_w hR
    have Ho := Lib.hid (fitsW_ok (wd := wd) (n := mx) hc)
    have Hall := Lib.hid (chk_all hc)
    rw [hc]
    clear hc hR
    go_wp2_with fail
    go_loopw [9, 10] (fun i a wr => ∃ k : Nat, k ≤ n ∧ i = .int .i64 (k : Int) ∧ a = .int .i64 (sumW T wd (cs.take k)) ∧ k ≤ fitW T wd mx cs 0 ∧ Below w1.heap.size w1 wr) (fun i _ _ => n - (RowKit.intOf i).toNat)
    case atStart => exact ⟨0, Nat.zero_le _, rfl, rfl, Nat.zero_le _, Below.refl _ _⟩
    case round =>
      obtain ⟨k, hk, rfl, rfl, hfi, hbr⟩ := hrel
      obtain ⟨wo, hwo⟩ : ∃ wo, wo = wr := ⟨_, rfl⟩
      subst hwo
      rcases Nat.lt_or_ge k n with hlt | hge
      · have hkl : k < cs.length := by rw [Hlen.out]; exact hlt
        obtain ⟨xb, xo, rfl, hxb, hxc⟩ := Hx.out.at_ (by omega)
        have hww : Below w.heap.size w wo := Hbf.out.trans (hbr.mono Hbf.out.size)
        have u0 := (cellOf hww hxb).trans (hxc k hkl)
        obtain ⟨l, hsl⟩ := Option.isSome_iff_exists.1 (Hall.out _ (List.getElem_mem hkl))
        have hsn : sumW T wd (cs.take (k + 1)) = sumW T wd (cs.take k) + clusW T wd l := by
          rw [List.take_succ_eq_append_getElem hkl, sumW_snoc]
          unfold clusS
          rw [hsl]; rfl
        have hfs := fun h => fit_stop (n := mx) (T := T) (wd := wd) (cs := cs) hfi h
        have hfn := fun h => fit_next (n := mx) (T := T) (wd := wd) (cs := cs) hfi hkl h
        rw [hsn] at hfs hfn
        have Hfs := Lib.hid hfs
        have Hfn := Lib.hid hfn
        clear hfs hfn
        have hse := sumW_ends T wd (cs.take k)
        rw [List.length_take] at hse
        have hce := clusW_ends T wd l
        have hb0r : Below W0.heap.size W0 wo := Hb1.out.trans (hbr.mono Hb1.out.size)
        have hx1 := (hb0r.block w.heap.size (Array.getElem?_eq_some_iff.1 HX.out).1).trans HX.out
        have Hlt0 := Lib.hid (show w.heap.size < wo.heap.size from (Array.getElem?_eq_some_iff.1 hx1).1)
        have f0 := cell_blk hx1 0
        have f1 := cell_blk hx1 1
        have f2 := cell_blk hx1 2
        have hwc := ref15_Widest Ai ni ci Ab nb cb wd T cs[k] l wo.drew ((HT.out.below hb0r.drew).more hb0r.drew.size) hrr (Hcs.out _ (List.getElem_mem hkl)) hsl
        have Hwc := Lib.hid hwc
        have Hsn := Lib.hid hsn
        clear hwc hsn hxc hsl hx1 hb0r
        generalize clusW T wd l = y at *
        generalize sumW T wd (cs.take k) = z at *
        generalize cs[k] = s at *
        go_upto_region 7 with fail
        have lt0 : w.heap.size < wo.heap.size := Hlt0.out
        have lt1 : xb < wo.heap.size := by have := hww.size; omega
        refine wp_region_noPanic ?_
        refine wp_region_held_drew (S := fun V => Below wo.heap.size wo V) (by kernel_rfl) (Below.refl _ _).drew (fun hHeld => ?_)
        refine wpAnyH_take (i := 0) (v := .int .i64 z) rfl (by kernel_rfl) (by kernel_rfl) (by kernel_rfl) (fun _ _ _ h => h) (.inl ⟨by rfl, fun V hV => by have c0 := (cellOf hV lt0).trans f0; have c1 := (cellOf hV lt0).trans f1; have c2 := (cellOf hV lt0).trans f2; have c3 := (cellOf hV lt1).trans u0; clear hV; go_simp⟩) hHeld ?_
        try simp only [Act.put, List.getElem_toArray, List.getElem_cons_zero, List.setIfInBounds_toArray, List.set_cons_zero, List.set_cons_succ]
        refine wpAnyH_take (i := 1) (v := .agg #[.slice Ai ni ci, .slice Ab nb cb, .bool wd]) rfl (by kernel_rfl) (by kernel_rfl) (by kernel_rfl) (fun _ _ _ h => h) (.inl ⟨by rfl, fun V hV => by have c0 := (cellOf hV lt0).trans f0; have c1 := (cellOf hV lt0).trans f1; have c2 := (cellOf hV lt0).trans f2; have c3 := (cellOf hV lt1).trans u0; clear hV; go_simp⟩) hHeld ?_
        try simp only [Act.put, List.getElem_toArray, List.getElem_cons_zero, List.getElem_cons_succ, List.setIfInBounds_toArray, List.set_cons_zero, List.set_cons_succ]
        refine wpAnyH_take (i := 2) (v := .slice (some ⟨xb, xo, none⟩) n c) rfl (by kernel_rfl) (by kernel_rfl) (by kernel_rfl) (fun _ _ _ h => h) (.inl ⟨by rfl, fun V hV => by have c0 := (cellOf hV lt0).trans f0; have c1 := (cellOf hV lt0).trans f1; have c2 := (cellOf hV lt0).trans f2; have c3 := (cellOf hV lt1).trans u0; clear hV; go_simp⟩) hHeld ?_
        try simp only [Act.put, List.getElem_toArray, List.getElem_cons_zero, List.getElem_cons_succ, List.setIfInBounds_toArray, List.set_cons_zero, List.set_cons_succ]
        refine wpAnyH_take (i := 3) (v := .int .i64 (k : Int)) rfl (by kernel_rfl) (by kernel_rfl) (by kernel_rfl) (fun _ _ _ h => h) (.inl ⟨by rfl, fun V hV => by have c0 := (cellOf hV lt0).trans f0; have c1 := (cellOf hV lt0).trans f1; have c2 := (cellOf hV lt0).trans f2; have c3 := (cellOf hV lt1).trans u0; clear hV; go_simp⟩) hHeld ?_
        try simp only [Act.put, List.getElem_toArray, List.getElem_cons_zero, List.getElem_cons_succ, List.setIfInBounds_toArray, List.set_cons_zero, List.set_cons_succ]
        refine wpAnyH_take (i := 4) (v := .pointer (some ⟨xb, xo + k, none⟩)) rfl (by kernel_rfl) (by kernel_rfl) (by kernel_rfl) (fun _ _ _ h => h) (.inl ⟨by rfl, fun V hV => by have c0 := (cellOf hV lt0).trans f0; have c1 := (cellOf hV lt0).trans f1; have c2 := (cellOf hV lt0).trans f2; have c3 := (cellOf hV lt1).trans u0; clear hV; go_simp⟩) hHeld ?_
        try simp only [Act.put, List.getElem_toArray, List.getElem_cons_zero, List.getElem_cons_succ, List.setIfInBounds_toArray, List.set_cons_zero, List.set_cons_succ]
        refine wpAnyH_take (i := 5) (v := .string ⟨s.toArray⟩) rfl (by kernel_rfl) (by kernel_rfl) (by kernel_rfl) (fun _ _ _ h => h) (.inl ⟨by rfl, fun V hV => by have c0 := (cellOf hV lt0).trans f0; have c1 := (cellOf hV lt0).trans f1; have c2 := (cellOf hV lt0).trans f2; have c3 := (cellOf hV lt1).trans u0; clear hV; go_simp⟩) hHeld ?_
        try simp only [Act.put, List.getElem_toArray, List.getElem_cons_zero, List.getElem_cons_succ, List.setIfInBounds_toArray, List.set_cons_zero, List.set_cons_succ]
        refine wpAnyH_ready (rs := [6]) (by kernel_rfl) (by simp) ?_
        refine AllReadyH.cons rfl (fun K hK => ?_) AllReadyH.nil
        go_simp
        refine Hwc.out.mono ?_
        rintro e w2 ⟨rfl, hb2⟩
        refine hK.out _ _ (Below.trans hHeld (hb2.mono hHeld.size)) (fun hHeld => ?_)
        clear hK K
        try simp only [Act.put, List.getElem_toArray, List.getElem_cons_zero, List.getElem_cons_succ, List.setIfInBounds_toArray, List.set_cons_zero, List.set_cons_succ]
        refine wpAnyH_take (i := 7) (v := .int .i64 (z + y)) rfl (by kernel_rfl) (by kernel_rfl) (by kernel_rfl) (fun _ _ _ h => h) (.inl ⟨by rfl, fun V hV => by go_simp; first | done | exact wraps_i64 _ (by omega) (by omega)⟩) hHeld ?_
        try simp only [Act.put, List.getElem_toArray, List.getElem_cons_zero, List.getElem_cons_succ, List.setIfInBounds_toArray, List.set_cons_zero, List.set_cons_succ]
        refine wpAnyH_take (i := 8) (v := .int .i64 (z + y)) rfl (by kernel_rfl) (by kernel_rfl) (by kernel_rfl) (fun _ _ _ h => h) (.inl ⟨by rfl, fun V hV => by go_simp⟩) hHeld ?_
        try simp only [Act.put, List.getElem_toArray, List.getElem_cons_zero, List.getElem_cons_succ, List.setIfInBounds_toArray, List.set_cons_zero, List.set_cons_succ]
        refine wpAnyH_done (by kernel_rfl) ?_ _
        refine NoPanic.normal ?_
        have hbq : Below w1.heap.size w1 w2 := hbr.trans (hHeld.mono hbr.size)
        clear u0 f0 f1 f2
        have hbf := Hbf.out.trans (hbq.mono Hbf.out.size)
        by_cases hz : mx < z + y
        · have Hz := Lib.hid (Hfs.out hz)
          go_wp2_with fail
          go_ret2
          exact ⟨by rw [Ho.out, Hz.out]; rfl, hbf⟩
        · have Hz := Lib.hid (Hfn.out (by omega))
          go_wp2_with fail
          go_roundw
          case rel => exact ⟨k + 1, by omega, by go_num, by rw [Hsn.out], Hz.out, hbq⟩
          case measure => simp [RowKit.intOf]; omega
      · obtain rfl : k = n := by omega
        have hfe : fitW T wd mx cs 0 = k := by have := fitW_le T wd mx cs 0; have := Hlen.out; omega
        have Hfe := Lib.hid hfe
        clear hfe
        generalize sumW T wd (cs.take k) = zz at *
        have hbf := Hbf.out.trans (hbr.mono Hbf.out.size)
        go_wp2_with fail
        go_ret2
        exact ⟨by rw [Ho.out, Hfe.out]; rfl, hbf⟩
end Go.Vir

