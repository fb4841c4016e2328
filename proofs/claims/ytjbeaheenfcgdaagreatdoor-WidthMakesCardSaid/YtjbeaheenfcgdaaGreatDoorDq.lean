/- Joined texts: TrL, TsJ, TsK, TrD, TsD, Sh5, Gl, G5, G15, Gs, Six. -/
import Derived.Test.YtjbeaheenfcgdaaGreatDoorDp
import Derived.Test.YtjbeaheenfcgdaaGreatDoorDn
import Derived.Test.YtjbeaheenfcgdaaGreatDoorDm
import Derived.Test.YtjbeaheenfcgdaaGreatDoorDh
import Derived.Test.YtjbeaheenfcgdaaGreatDoorDg
import Derived.Test.YtjbeaheenfcgdaaGreatDoorDd
import Derived.Test.YtjbeaheenfcgdaaGreatDoorDb
import Derived.Test.YtjbeaheenfcgdaaGreatDoorDf
import Derived.Test.YtjbeaheenfcgdaaGreatDoorProg
import Derived.Test.YtjbeaheenfcgdaaGreatDoorShelf
import Derived.Test.YtjbeaheenfcgdaaGreatDoorDe
import Derived.Test.YtjbeaheenfcgdaaGreatDoorDa
import Derived.Test.YtjbeaheenfcgdaaGreatDoorRows
import Derived.StillTailTactics
import Derived.Shelf.Strings.BuilderRune
import Derived.RangeFuncBox
import Derived.Deep.RegionHeld3
import Derived.Laws.StructEq
import Derived.Maps.RangeRun
import Derived.Maps.RangeWalk
import Derived.Deep.DeepCutAuto
import Derived.ProofKit
import Derived.OpenShut
import Derived.LaidMore
import Derived.LaidLaws
import Derived.LaidHandle
import Derived.Lay
import Derived.HandedShaped
import Derived.Shelf.Vars
import Derived.Stop.Joined
import Derived.ChangeSame
import Derived.Deep.Strs
import Derived.SliceStrings
import Derived.ChangeMaps5
import Derived.Carry
namespace Go.Vir
open Go Go.RowKit Go.Proofs
attribute [local go_sem] Oper.semAt_some

def BuR (w : World) (F q p : Nat) (l : List Rg) (i : Nat) (W : World) : Prop :=
  ∃ Vi Vb xs, W.heap[p]? = some (.cells #[Vi, Vb] 40 (0, 0)) ∧ W.heap[q]? = some (.cells #[.slice none 0 0, .slice none 0 0] 40 (0, 0)) ∧ TrS F (fun _ => False) W (rowsT l i) Vi Vb xs ∧ Below w.heap.size w W
theorem rows_256 (l : List Rg) (i : Nat) : ∀ y ∈ (rowsT l i).bl, y.length = 256 := fun y hy => by
  obtain ⟨j, rfl⟩ := (rows_inv l i).mem y hy
  exact block_len l j
theorem BuR.step {w : World} {F q p : Nat} {l : List Rg} {i : Nat} {Vi Vb Vi2 Vb2 : Value} {xs xs2 : List Value} {W V3 V5 : World} (hp : W.heap[p]? = some (.cells #[Vi, Vb] 40 (0, 0))) (hq : W.heap[q]? = some (.cells #[.slice none 0 0, .slice none 0 0] 40 (0, 0)))
    (hS : TrS F (fun _ => False) W (rowsT l i) Vi Vb xs) (hbw : Below w.heap.size w W) (hb : Below W.heap.size W V3) (hS2 : TrS F (fun _ => False) V5 (putT (rowsT l i) (blockT l i)) Vi2 Vb2 xs2) (hf : BdF V3.heap.size V3.heap.size Vi Vb V3 V5) (hpF : p < F) (hqF : q < F) (hpw : w.heap.size ≤ p) (hpq : p ≠ q) :
    BuR w F q p l (i + 1) ((V5.setCell ⟨p, 0, none⟩ Vi2).setCell ⟨p, 1, none⟩ Vb2) ∧ V5.cell? ⟨p, 0, none⟩ = some Vi ∧ V5.cell? ⟨p, 1, none⟩ = some Vb ∧ V5.frozen? ⟨p, 0, none⟩ = false ∧ V5.frozen? ⟨p, 1, none⟩ = false := by
  have hpl : p < W.heap.size := (Array.getElem?_eq_some_iff.1 hp).1
  have hql : q < W.heap.size := (Array.getElem?_eq_some_iff.1 hq).1
  have hs := hb.size
  have h3 : ∀ k, k < F → k < W.heap.size → V5.heap[k]? = W.heap[k]? := fun k hk hl => (hf.blk k (by omega) (by omega) (by omega) (fun e => by have := (lt_own hS.ri k e).1; omega) (fun e => by have := (lt_own hS.rb k e).1; omega)).trans (hb.block k hl)
  have hp5 := (h3 p hpF hpl).trans hp
  have hk : ∀ k, k ≠ p → ((V5.setCell ⟨p, 0, none⟩ Vi2).setCell ⟨p, 1, none⟩ Vb2).heap[k]? = V5.heap[k]? := fun k hk => (Below.heap_setCell _ _ _ _ hk).trans (Below.heap_setCell _ _ _ _ hk)
  have hsz := hf.size
  refine ⟨⟨Vi2, Vb2, xs2, by simp [World.setCell, Array.getElem?_modify, hp5], (hk q (by omega)).trans ((h3 q hqF hql).trans hq), hS2.keepD (by simp [World.setCell]) (fun k o hF ho _ => (hk k (by omega)).trans ho), ?_⟩, cell_blk hp5 0, cell_blk hp5 1, frozen_blk hp5 0, frozen_blk hp5 1⟩
  have hws := hbw.size
  exact hbw.trans ⟨by simp [World.setCell, hf.os, hb.os], by simp [World.setCell, hf.tape, hb.tape], by simp [World.setCell, hf.output, hb.output], by simp [World.setCell]; omega, fun k hkl => (hk k (by omega)).trans (h3 k (by omega) (by omega))⟩

theorem results_cell2_t {f : Func} {ts : Array Value} {W : World} {a : Nat} {u v x : Value} {s t : Tmp} (hf : f.results = #[.cell s 40, .tmp t]) (hs : ts[s]? = some (.pointer (some ⟨a, 0, none⟩))) (ht : ts[t]? = some x) (h0 : W.cell? ⟨a, 0, none⟩ = some u) (h1 : W.cell? ⟨a, 1, none⟩ = some v) :
    (results f ts).run Tryz.prog W = .ok (.tuple #[.agg #[u, v], x]) W := by
  simp [results, hf, hs, ht, go_sem, h0, h1]
set_option maxRecDepth 100000 in
set_option maxHeartbeats 4000000 in
theorem ref06_Build (A : Option Addr) (n c : Nat) (l : List Rg) (w : World) (hx : Rgs w w.heap.size A n l) (hn : n ≤ 600) (hl : riseR (-1) l = true) :
    Calls Tryz.prog 57 #[.slice A n c] w fun e w' => ∃ Ai ni ci Ab nb cb, e = .returned (.tuple #[.agg #[.slice Ai ni ci, .slice Ab nb cb], .int .i64 0]) ∧ ni ≤ ci ∧ nb ≤ cb ∧ Tri w' w'.heap.size Ai ni Ab nb (buildT l) ∧ Below w.heap.size w w' := by
  have hb0 : Below w.heap.size w (w.alloc (.cells #[.slice none 0 0, .slice none 0 0] 40)) := by go_grown
  have hrt := ref_RightR A n c l (w.alloc (.cells #[.slice none 0 0, .slice none 0 0] 40)) ((hx.below hb0).more hb0.size) (by omega) hl
  rw [show decide ((n : Int) ≤ 600) = true from decide_eq_true (by omega)] at hrt
  have Hrt := Lib.hid hrt
  have Hx := Lib.hid hx
  have Hb0 := Lib.hid hb0
  have Hlen := Lib.hid hx.len
  clear hrt hx hb0
  go_enter Tryz.func57, Tryz.ntmps57
  go_wp2_with fail
  refine Hrt.out.mono ?_
  rintro e w1 ⟨rfl, hb1⟩
  have hq1 := (hb1.block w.heap.size (by simp)).trans (heap_new rfl)
  have hbw1 := Hb0.out.trans (hb1.mono Hb0.out.size)
  go_wp2_with fail
  have hs1 : w.heap.size + 1 ≤ w1.heap.size := by have := hb1.size; simpa using this
  obtain ⟨W1, hW1⟩ : ∃ W1, W1 = w1.alloc (.cells #[.slice none 0 0, .slice none 0 0] 40) := ⟨_, rfl⟩
  have hst0 : BuR w (w1.heap.size + 1) w.heap.size w1.heap.size l 0 W1 := by
    refine ⟨_, _, [], (by rw [hW1]; simp (disch := (first | omega | (simp only [World.size_alloc]; done) | (simp only [World.size_alloc]; omega))) only [heap_laws]), ?_, TrS.nil (by rw [hW1]; simp) (fun k hk => hk.elim), hbw1.trans ?_⟩
    · rw [hW1]; exact (heap_old (by omega)).trans hq1
    · rw [hW1]; exact (Below.refl _ _).alloc (by omega) _
  have Hst0 := Lib.hid hst0
  rw [← hW1]
  have HbW : Hid (Below w.heap.size w w1) := Lib.hid hbw1
  clear hst0 hW1 hq1 hb1 hbw1 Hrt Hb0
  generalize hpd : w1.heap.size = p at *
  generalize hqd : w.heap.size = q at *
  have Hqd := Lib.hid hqd
  clear hpd hqd
  go_loopw [5] (fun i wr => ∃ k : Nat, k ≤ 4352 ∧ i = .int .i64 (k : Int) ∧ BuR w (p + 1) q p l k wr) (fun i _ => 4352 - (RowKit.intOf i).toNat)
  case atStart => exact ⟨0, Nat.zero_le _, rfl, Hst0.out⟩
  case round =>
    obtain ⟨k, hk, rfl, hst⟩ := hrel
    obtain ⟨W, hW⟩ : ∃ W, W = wr := ⟨_, rfl⟩
    subst hW
    rcases Nat.lt_or_ge k 4352 with hlt | hge
    · go_upto_region 7 with fail
      have Hst := Lib.hid hst
      clear hst
      obtain ⟨Vi, Vb, xs, hp, hq, hS, hbw⟩ := Hst.out
      have hpU : W.drew.heap[p]? = some (.cells #[Vi, Vb] 40 (0, 0)) := hp
      have hSU := hS.below (Below.refl _ _).drew
      have hbU := hbw.drew
      have xU0 : W.drew.cell? ⟨p, 0, none⟩ = some Vi := cell_blk hpU 0
      have xU1 : W.drew.cell? ⟨p, 1, none⟩ = some Vb := cell_blk hpU 1
      have Hlt : Hid (p < W.drew.heap.size) := Lib.hid (Array.getElem?_eq_some_iff.1 hpU).1
      have Hblk := Lib.hid (ref06_block k A n c l W.drew (by rw [← Hqd.out] at Hx; exact (Hx.out.below hbU).more hbU.size) (by omega) hlt)
      have Hput : Hid (∀ V3 : World, Ints V3 V3.heap.size (some ⟨W.drew.heap.size, 0, none⟩) 256 (blockT l k) → Below W.drew.heap.size W.drew V3 → Calls Tryz.prog 102 #[.agg #[Vi, Vb], .slice (some ⟨W.drew.heap.size, 0, none⟩) 256 256] V3 (PutP (p + 1) (putT (rowsT l k) (blockT l k)) Vi Vb V3)) :=
        Lib.hid fun V3 hi3 hb3 => ref06_put (p + 1) _ Vi Vb xs _ 256 (blockT l k) V3 (hSU.below hb3) hi3 (by have := (rows_lens l k).1; omega) (by have := (rows_lens l k).2; omega) (rows_256 l k) ⟨fun e => by have := (lt_own hSU.ri _ e).2; simp at this, fun e => by have := (lt_own hSU.rb _ e).2; simp at this⟩
      have Hend := Lib.hid (fun (V3 V5 : World) (Vi2 Vb2 : Value) (xs2 : List Value) (hb3 : Below W.drew.heap.size W.drew V3) h1 (h2 : BdF V3.heap.size V3.heap.size Vi Vb V3 V5) =>
        BuR.step (w := w) (F := p + 1) (q := q) (p := p) (l := l) (i := k) (Vi2 := Vi2) (Vb2 := Vb2) (xs2 := xs2) (V3 := V3) (V5 := V5) hpU hq hSU hbU hb3 h1 h2 (by omega) (by omega) (by have := Hqd.out; omega) (by omega))
      obtain ⟨B1, m1, d1, B2, m2, d2, rfl, rfl, _⟩ := hS.tri
      clear hp hq hS hbw hSU hbU hpU
      refine wp_region_noPanic ?_
      refine wp_region_held_drew (S := fun _ => True) (by kernel_rfl) trivial (fun hHeld => ?_)
      generalize W.drew = U at *
      refine wpAnyH_take (i := 1) (v := .slice A n c) rfl (by kernel_rfl) (by kernel_rfl) (by kernel_rfl) (fun _ _ _ h => h) (.inl ⟨by rfl, fun V hV => by go_simp⟩) hHeld ?_
      try simp only [Act.put, qB, qC, qD, qE, qF, qG]
      refine wpAnyH_take (i := 2) (v := .int .i64 (k : Int)) rfl (by kernel_rfl) (by kernel_rfl) (by kernel_rfl) (fun _ _ _ h => h) (.inl ⟨by rfl, fun V hV => by go_simp⟩) hHeld ?_
      try simp only [Act.put, qB, qC, qD, qE, qF, qG]
      refine wpAnyH_ready (rs := [0, 3]) (by kernel_rfl) (by simp) ?_
      refine AllReadyH.cons rfl (fun K hK => ?_) (AllReadyH.cons rfl (fun K hK => ?_) AllReadyH.nil)
      · go_simp
        refine hK.out _ _ trivial (fun hHeld => ?_)
        clear hK K
        try simp only [Act.put, qB, qC, qD, qE, qF, qG]
        refine wpAnyH_ready (rs := [3]) (by kernel_rfl) (by simp) ?_
        refine AllReadyH.cons rfl (fun K hK => ?_) AllReadyH.nil
        go_simp
        refine Hblk.out.mono ?_
        rintro e V3 ⟨rfl, hi3, hb3⟩
        have x0 := (cellOf hb3 Hlt.out).trans xU0
        have x1 := (cellOf hb3 Hlt.out).trans xU1
        refine hK.out _ _ trivial (fun hHeld => ?_)
        clear hK K
        try simp only [Act.put, qB, qC, qD, qE, qF, qG]
        refine wpAnyH_ready (rs := [4]) (by kernel_rfl) (by simp) ?_
        refine AllReadyH.cons rfl (fun K hK => ?_) AllReadyH.nil
        go_simp
        refine (Hput.out V3 hi3 hb3).mono ?_
        rintro e V5 ⟨Vi2, Vb2, xs2, rfl, hst2, hbf2⟩
        obtain ⟨A1, n1, c1, A2, n2, c2, rfl, rfl, _⟩ := hst2.tri
        obtain ⟨hsto, y0, y1, z0, z1⟩ := Hend.out V3 V5 _ _ xs2 hb3 hst2 hbf2
        have Hsto := Lib.hid hsto
        clear hsto hst2 hbf2
        refine hK.out _ _ trivial (fun hHeld => ?_)
        clear hK K
        try simp only [Act.put, qB, qC, qD, qE, qF, qG]
        refine wpAnyH_ready (rs := [5]) (by kernel_rfl) (by simp) ?_
        refine AllReadyH.cons rfl (fun K hK => ?_) AllReadyH.nil
        go_simp
        refine hK.out _ _ trivial (fun hHeld => ?_)
        clear hK K
        try simp only [Act.put, qB, qC, qD, qE, qF, qG]
        refine wpAnyH_done (by kernel_rfl) ?_ _
        refine NoPanic.normal ?_
        clear Hblk Hput Hend Hst
        go_wp2_with fail
        go_roundw
        case rel => exact ⟨k + 1, by omega, by go_num, Hsto.out⟩
        case measure => simp [RowKit.intOf]; omega
      · go_simp
        refine Hblk.out.mono ?_
        rintro e V3 ⟨rfl, hi3, hb3⟩
        have x0 := (cellOf hb3 Hlt.out).trans xU0
        have x1 := (cellOf hb3 Hlt.out).trans xU1
        refine hK.out _ _ trivial (fun hHeld => ?_)
        clear hK K
        try simp only [Act.put, qB, qC, qD, qE, qF, qG]
        refine wpAnyH_ready (rs := [0]) (by kernel_rfl) (by simp) ?_
        refine AllReadyH.cons rfl (fun K hK => ?_) AllReadyH.nil
        go_simp
        refine hK.out _ _ trivial (fun hHeld => ?_)
        clear hK K
        try simp only [Act.put, qB, qC, qD, qE, qF, qG]
        refine wpAnyH_ready (rs := [4]) (by kernel_rfl) (by simp) ?_
        refine AllReadyH.cons rfl (fun K hK => ?_) AllReadyH.nil
        go_simp
        refine (Hput.out V3 hi3 hb3).mono ?_
        rintro e V5 ⟨Vi2, Vb2, xs2, rfl, hst2, hbf2⟩
        obtain ⟨A1, n1, c1, A2, n2, c2, rfl, rfl, _⟩ := hst2.tri
        obtain ⟨hsto, y0, y1, z0, z1⟩ := Hend.out V3 V5 _ _ xs2 hb3 hst2 hbf2
        have Hsto := Lib.hid hsto
        clear hsto hst2 hbf2
        refine hK.out _ _ trivial (fun hHeld => ?_)
        clear hK K
        try simp only [Act.put, qB, qC, qD, qE, qF, qG]
        refine wpAnyH_ready (rs := [5]) (by kernel_rfl) (by simp) ?_
        refine AllReadyH.cons rfl (fun K hK => ?_) AllReadyH.nil
        go_simp
        refine hK.out _ _ trivial (fun hHeld => ?_)
        clear hK K
        try simp only [Act.put, qB, qC, qD, qE, qF, qG]
        refine wpAnyH_done (by kernel_rfl) ?_ _
        refine NoPanic.normal ?_
        clear Hblk Hput Hend Hst
        go_wp2_with fail
        go_roundw
        case rel => exact ⟨k + 1, by omega, by go_num, Hsto.out⟩
        case measure => simp [RowKit.intOf]; omega
    · have hT : buildT l = rowsT l 4352 := by unfold buildT; rfl
      obtain rfl : k = 4352 := by omega
      unfold BuR at hst
      generalize rowsT l 4352 = T at hst hT
      obtain ⟨Vi, Vb, xs, hp, hq, hS, hbw⟩ := hst
      obtain ⟨Ai, ni, ci, Ab, nb, cb, rfl, rfl, h1, h2, htri⟩ := hS.tri
      have e1 := cell_blk hp 0
      have e2 := cell_blk hp 1
      have e3 := cell_blk hq 0
      have e4 := cell_blk hq 1
      have e5 := frozen_blk hq 0
      have e6 := frozen_blk hq 1
      have HT := Lib.hid hT
      have Hq := Lib.hid hq
      have HbW2 := Lib.hid hbw
      have HS := Lib.hid hS
      clear hT htri hq hbw hS hp Hst0
      go_wp2_with fail
      obtain ⟨V, hV⟩ : ∃ V, (W.setCell ⟨q, 0, none⟩ (.slice Ai ni ci)).setCell ⟨q, 1, none⟩ (.slice Ab nb cb) = V := ⟨_, rfl⟩
      have hk2 : ∀ k, k ≠ q → V.heap[k]? = W.heap[k]? := fun k hk => by
        rw [← hV]; exact (Below.heap_setCell _ _ _ _ hk).trans (Below.heap_setCell _ _ _ _ hk)
      have hc0 : V.heap[q]? = some (.cells #[.slice Ai ni ci, .slice Ab nb cb] 40 (0, 0)) := by
        rw [← hV]; simp [World.setCell, Array.getElem?_modify, Hq.out]
      have hbV : Below w.heap.size w V := by rw [← hV, Hqd.out]; have h := HbW2.out; rw [Hqd.out] at h; exact (h.setCell (by simp) _).setCell (by simp) _
      have hsV : V.heap.size = W.heap.size := by rw [← hV]; simp [World.setCell]
      rw [hV]
      clear hV
      have f0 := cell_blk hc0 0
      have f1 := cell_blk hc0 1
      have hst2 := HS.out.keepD (W' := V) (by omega) (fun k o hF ho _ => (hk2 k (by omega)).trans ho)
      obtain ⟨Ai', ni', ci', Ab', nb', cb', g1, g2, g3, g4, g5⟩ := hst2.tri
      cases g1
      cases g2
      refine bodyPost_ret (v := .tuple #[.agg #[.slice Ai ni ci, .slice Ab nb cb], .int .i64 0]) (results_cell2_t rfl rfl rfl f0 f1) rfl ?_
      exact ⟨_, _, _, _, _, _, rfl, g3, g4, by rw [HT.out]; exact g5, hbV⟩
end Go.Vir



namespace Go.Vir
open Go Go.RowKit Go.Proofs
attribute [local go_sem] Oper.semAt_some

set_option maxRecDepth 100000 in
set_option maxHeartbeats 4000000 in
theorem ref15_Make (s : List UInt8) (wd : Bool) (w : World) (hl : s.length ≤ 20000) :
    Calls Tryz.prog 26 #[.string ⟨s.toArray⟩, .bool wd] w fun e w' => MakeP (makeW s wd) e w' ∧ Below w.heap.size w w' := by
  obtain ⟨W0, hW0⟩ : ∃ W0, W0 = w.alloc (.cells #[.slice none 0 0, .slice none 0 0, .bool false] 42) := ⟨_, rfl⟩
  have hbw : Below w.heap.size w W0 := by rw [hW0]; go_grown
  have hx0 : W0.heap[w.heap.size]? = some (.cells #[.slice none 0 0, .slice none 0 0, .bool false] 42 (0, 0)) := by rw [hW0]; exact heap_new rfl
  have hlt := (Array.getElem?_eq_some_iff.1 hx0).1
  have hmk : makeW s wd = if (readB s widNm 0 false).2.2 = 0 then (buildT (readB s widNm 0 false).1, wd, 0, 0) else ({ ix := [], bl := [] }, false, (readB s widNm 0 false).2.1, (readB s widNm 0 false).2.2) := rfl
  have hmap := @read_map s widNm 0 false
  have Hmk := Lib.hid hmk
  have Hmap := Lib.hid hmap
  have Hbw := Lib.hid hbw
  have Hx := Lib.hid hx0
  clear hmk hmap hbw hx0
  go_enter Tryz.func26, Tryz.ntmps26
  go_upto_region 1 with fail
  rw [← hW0]
  clear hW0
  go_wp2_with fail
  refine (ref15_Names W0).mono ?_
  rintro e w1 ⟨rfl, hz1, hb1⟩
  have hbw1 := Hbw.out.trans (hb1.mono Hbw.out.size)
  have hx1 := (hb1.block _ hlt).trans Hx.out
  have hrd := ref_Read (some ⟨W0.heap.size, 0, none⟩) 7 7 0 false widNm s w1 hz1 (by omega) (by omega) (by decide) (by omega)
  have Hrd := Lib.hid hrd
  have Hbw1 := Lib.hid hbw1
  have Hx1 := Lib.hid hx1
  have hlt1 := (Array.getElem?_eq_some_iff.1 hx1).1
  clear hrd hbw1 hx1 hz1 hb1
  go_wp2_with fail
  refine Hrd.out.mono ?_
  generalize readB s widNm 0 false = ra at *
  rintro e w2 ⟨A2, n2, c2, rfl, hnc2, hr2, hb2⟩
  have hbw2 := Hbw1.out.trans (hb2.mono Hbw1.out.size)
  have hx2 := (hb2.block _ hlt1).trans Hx1.out
  have hlt2 := (Array.getElem?_eq_some_iff.1 hx2).1
  have hlr := hr2.len
  by_cases h0 : ra.2.2 = 0
  rotate_left
  · have hm : makeW s wd = ({ ix := [], bl := [] }, false, ra.2.1, ra.2.2) := by rw [Hmk.out, if_neg h0]
    have e1 : (ra.2.2 != 0) = true := by simpa using h0
    obtain ⟨g1, g2, _, _⟩ := widths_stored (.slice none 0 0) (.slice none 0 0) (.bool false) hx2 hbw2 (Nat.le_refl _)
    have G1 := Lib.hid g1
    have G2 := Lib.hid g2
    obtain ⟨i0, i1, i2⟩ := cells3 hx2
    have s0 := frozen_blk hx2 0
    have s1 := frozen_blk hx2 1
    have s2 := frozen_blk hx2 2
    have Hm := Lib.hid hm
    clear Hmk Hmap h0 hm g1 g2 hbw2 hr2 hx2 Hrd Hx Hx1 Hbw Hbw1 hlr
    go_wp2_with fail
    obtain ⟨j0, j1, j2⟩ := cells3 G1.out
    (try simp only [Exit.inBlock, Exit.then])
    refine bodyPost_ret (v := .tuple #[.agg #[.slice none 0 0, .slice none 0 0, .bool false], .int .i64 ra.2.1, .int .i64 ra.2.2]) (results_widths_t rfl rfl rfl rfl j0 j1 j2) rfl ?_
    rw [Hm.out]
    exact ⟨⟨_, _, _, _, _, _, rfl, Nat.le_refl _, Nat.le_refl _, Tri.nil _ _⟩, G2.out⟩
  · have hm : makeW s wd = (buildT ra.1, wd, 0, 0) := by rw [Hmk.out, if_pos h0]
    obtain ⟨hrise, hln, _, _⟩ := Hmap.out h0
    have e1 : (ra.2.2 != 0) = false := by simp [h0]
    have hbd := ref06_Build A2 n2 c2 ra.1 w2 hr2 (by omega) hrise
    have Hbd := Lib.hid hbd
    have Hbw2 := Lib.hid hbw2
    have Hx2 := Lib.hid hx2
    have Hm := Lib.hid hm
    have Hne := Lib.hid (build_ne ra.1)
    clear Hmk Hmap h0 hm hbd hbw2 hr2 hx2 Hrd Hx Hx1 Hbw Hbw1 hlr hrise hln
    go_wp2_with fail
    refine Hbd.out.mono ?_
    generalize buildT ra.1 = T at *
    rintro e w3 ⟨Ai, ni, ci, Ab, nb, cb, rfl, hi, hb, hT, hb3⟩
    obtain ⟨W4, hW4⟩ : ∃ W4, W4 = w3.alloc (.cells #[.slice Ai ni ci, .slice Ab nb cb] 40) := ⟨_, rfl⟩
    have hbw3 := Hbw2.out.trans (hb3.mono Hbw2.out.size)
    have hb4 : Below w3.heap.size w3 W4 := by rw [hW4]; go_grown
    have hy4 : W4.heap[w3.heap.size]? = some (.cells #[.slice Ai ni ci, .slice Ab nb cb] 40 (0, 0)) := by rw [hW4]; exact heap_new rfl
    have hx3 := (hb3.block _ hlt2).trans Hx2.out
    have hx4 := (hb4.block _ (Array.getElem?_eq_some_iff.1 hx3).1).trans hx3
    have hbw4 := hbw3.trans (hb4.mono hbw3.size)
    have hT4 := hT.below hb4
    obtain ⟨g1, g2, g3, g4⟩ := widths_stored (.slice Ai ni ci) (.slice Ab nb cb) (.bool wd) hx4 hbw4 (Nat.le_refl _)
    have hT5 : Tri ((((W4.setCell ⟨w.heap.size, 0, none⟩ (.slice Ai ni ci)).setCell ⟨w.heap.size, 1, none⟩ (.slice Ab nb cb)).setCell ⟨w.heap.size, 2, none⟩ (.bool wd))) (((W4.setCell ⟨w.heap.size, 0, none⟩ (.slice Ai ni ci)).setCell ⟨w.heap.size, 1, none⟩ (.slice Ab nb cb)).setCell ⟨w.heap.size, 2, none⟩ (.bool wd)).heap.size Ai ni Ab nb T := hT4.cellW hx4 Hne.out g3 (by rw [g4]; exact hb4.size)
    obtain ⟨f0, f1⟩ := cells2 hy4
    obtain ⟨i0, i1, i2⟩ := cells3 hx4
    have s0 := frozen_blk hx4 0
    have s1 := frozen_blk hx4 1
    have s2 := frozen_blk hx4 2
    have G1 := Lib.hid g1
    have G2 := Lib.hid g2
    have HT5 := Lib.hid hT5
    clear g1 g2 g3 g4 hT5 hT4 hT Hne hbw4 hx4 hx3 hbw3 Hbd Hbw2 Hx2 hy4 hb4 hb3
    go_upto_region 5 with fail
    rw [← hW4]
    clear hW4
    go_wp2_with fail
    obtain ⟨j0, j1, j2⟩ := cells3 G1.out
    (try simp only [Exit.inBlock, Exit.then])
    refine bodyPost_ret (v := .tuple #[.agg #[.slice Ai ni ci, .slice Ab nb cb, .bool wd], .int .i64 0, .int .i64 0]) (results_widths_t rfl rfl rfl rfl j0 j1 j2) rfl ?_
    rw [Hm.out]
    exact ⟨⟨_, _, _, _, _, _, rfl, hi, hb, HT5.out⟩, G2.out⟩
end Go.Vir


namespace Go.Vir
open Go Go.RowKit Go.Proofs
attribute [local go_sem] Oper.semAt_some

set_option maxRecDepth 100000 in
set_option maxHeartbeats 4000000 in
theorem ref14_Texts_same (A : Option Addr) (n c : Nat) (D : Option Addr) (d : Nat) (ss : List (List UInt8)) (w : World) (hz : Strs w w.heap.size A n ss) (hy : Strs w w.heap.size D n ss) (hn : n ≤ 1000000) :
    Calls Tryz.prog 32 #[.slice A n c, .slice D n d] w fun e w' => e = .returned (.bool true) ∧ Below w.heap.size w w' := by
  have Hz := Lib.hid hz
  have Hy := Lib.hid hy
  have hl := hz.len
  clear hz hy
  go_enter Tryz.func32, Tryz.ntmps32
  go_wp2_with fail
  go_loopw [5] (fun i wr => ∃ k : Nat, k ≤ n ∧ i = .int .i64 (k : Int) ∧ Below w.heap.size w wr) (fun i _ => n - (RowKit.intOf i).toNat)
  case atStart => exact ⟨0, Nat.zero_le _, rfl, Below.refl _ _⟩
  case round =>
    obtain ⟨k, hk, rfl, hbr⟩ := hrel
    rcases Nat.lt_or_ge k n with hlt | hge
    · obtain ⟨ab, ao, rfl, hab, hac⟩ := Hz.out.at_ (by omega)
      obtain ⟨db, do_, rfl, hdb, hdc⟩ := Hy.out.at_ (by omega)
      have hkl : k < ss.length := by omega
      have a0 := (cellOf hbr hab).trans (hac k hkl)
      have d0 := (cellOf hbr hdb).trans (hdc k hkl)
      generalize ss[k] = s at *
      clear hac hdc
      go_upto_region 6 with fail
      go_quiet (fail)
      have hbq : Below w.heap.size w (wr.drewN nq) := hbr.trans (Below.mono (below_drewN wr.heap.size _ _) hbr.size)
      go_wp2_with fail
      go_roundw
      case rel => exact ⟨k + 1, by omega, by go_num, hbq⟩
      case measure => simp [RowKit.intOf]; omega
    · go_wp2_with fail
      go_ret
      exact ⟨rfl, hbr⟩
end Go.Vir


namespace Go.Vir
open Go Go.RowKit Go.Proofs
attribute [local go_sem] Oper.semAt_some

theorem take_next {α : Type} {xs ys : List α} {k : Nat} (hx : k < xs.length) (hy : k < ys.length) (h : xs.take k = ys.take k) (he : xs[k] = ys[k]) : xs.take (k + 1) = ys.take (k + 1) := by
  rw [List.take_succ_eq_append_getElem hx, List.take_succ_eq_append_getElem hy, h, he]

set_option maxRecDepth 100000 in
set_option maxHeartbeats 4000000 in
theorem ref06_Same (Ai Bi : Option Addr) (ni ci mi di : Nat) (Ab Bb : Option Addr) (nb cb mb db : Nat) (T U : TrV) (w : World) (hT : Tri w w.heap.size Ai ni Ab nb T) (hU : Tri w w.heap.size Bi mi Bb mb U) (hi : ni ≤ 1000000) (hnb : nb ≤ 1000000) (hbs : ∀ b ∈ T.bl, b.length ≤ 1000000) :
    Calls Tryz.prog 29 #[.agg #[.slice Ai ni ci, .slice Ab nb cb], .agg #[.slice Bi mi di, .slice Bb mb db]] w fun e w' => e = .returned (.bool (decide (T = U))) ∧ Below w.heap.size w w' := by
  have hI := fun (W : World) (hW : Below w.heap.size w W) => ref_Ints Ai Bi ni ci mi di T.ix U.ix W ((hT.ix.below hW).more hW.size) ((hU.ix.below hW).more hW.size) hi
  have hne : T.ix ≠ U.ix → decide (T = U) = false := fun h => decide_eq_false fun e => h (by rw [e])
  have hnl : nb ≠ mb → decide (T = U) = false := fun h => decide_eq_false fun e => h (by rw [← hT.bl.len, ← hU.bl.len, e])
  have hnk : ∀ (k : Nat) (h : k < T.bl.length) (h2 : k < U.bl.length), T.bl[k] ≠ U.bl[k] → decide (T = U) = false := fun k h h2 hh => decide_eq_false fun e => hh (by subst e; rfl)
  have hall : T.ix = U.ix → T.bl = U.bl → decide (T = U) = true := fun h1 h2 => decide_eq_true (by cases T; cases U; simp_all)
  have hTl := hT.bl.len
  have hUl := hU.bl.len
  generalize decide (T = U) = R at *
  obtain ⟨W0, hW0⟩ : ∃ W0, W0 = (w.alloc (.cells #[.slice Ai ni ci, .slice Ab nb cb] 40)).alloc (.cells #[.slice Bi mi di, .slice Bb mb db] 40) := ⟨_, rfl⟩
  have hbw0 : Below w.heap.size w W0 := by rw [hW0]; go_grown
  have c0 : W0.heap[w.heap.size]? = some (.cells #[.slice Ai ni ci, .slice Ab nb cb] 40 (0, 0)) := by rw [hW0]; exact (heap_old (by simp)).trans (heap_new rfl)
  have c1 : W0.heap[w.heap.size + 1]? = some (.cells #[.slice Bi mi di, .slice Bb mb db] 40 (0, 0)) := by rw [hW0]; exact heap_new (by simp)
  have hs0 : W0.heap.size = w.heap.size + 2 := by rw [hW0]; simp
  have H0 := hI W0 hbw0
  rw [hW0] at H0
  have HT := Lib.hid hT
  have HU := Lib.hid hU
  have Hne := Lib.hid hne
  have Hnl := Lib.hid hnl
  have Hnk := Lib.hid hnk
  have Hall := Lib.hid hall
  have HTl := Lib.hid hTl
  have HUl := Lib.hid hUl
  have H0' := Lib.hid H0
  have Hb0 := Lib.hid hbw0
  have Hc0 := Lib.hid c0
  have Hc1 := Lib.hid c1
  have Hs0 := Lib.hid hs0
  have HW0 := Lib.hid hW0
  have Hbs := Lib.hid hbs
  clear hI hne hnl hnk hall hT hU H0 hTl hUl hbw0 c0 c1 hs0 hW0 hbs
  go_enter Tryz.func29, Tryz.ntmps29
  go_wp2_with fail
  refine H0'.out.mono ?_
  rintro e w1 ⟨rfl, hb1⟩
  rw [← HW0.out] at hb1
  have hs0 := Hs0.out
  have hbw1 := Hb0.out.trans (hb1.mono Hb0.out.size)
  have u1 : w1.cell? ⟨w.heap.size, 1, none⟩ = some (.slice Ab nb cb) := (cellOf hb1 (by omega)).trans (cell_blk Hc0.out 1)
  have v1 : w1.cell? ⟨w.heap.size + 1, 1, none⟩ = some (.slice Bb mb db) := (cellOf hb1 (by omega)).trans (cell_blk Hc1.out 1)
  rcases hd : decide (T.ix = U.ix) with _ | _
  · have hn := Hne.out (of_decide_eq_false hd)
    subst hn
    clear hd
    go_wp2_with fail
    go_ret
    exact ⟨rfl, hbw1⟩
  · have hix := of_decide_eq_true hd
    have Hix := Lib.hid hix
    clear hd hix
    by_cases hnm : nb = mb
    rotate_left
    · have hn := Hnl.out hnm
      subst hn
      have e1 : ((nb : Int) != (mb : Int)) = true := by rw [bne_iff_ne]; omega
      clear hnm
      go_wp2_with fail
      go_ret
      exact ⟨rfl, hbw1⟩
    · subst hnm
      clear H0'
      go_wp2_with fail
      go_loopw [5] (fun i wr => ∃ k : Nat, k ≤ nb ∧ i = .int .i64 (k : Int) ∧ T.bl.take k = U.bl.take k ∧ Below W0.heap.size W0 wr) (fun i _ => nb - (RowKit.intOf i).toNat)
      case atStart => exact ⟨0, Nat.zero_le _, rfl, rfl, hb1⟩
      case round =>
        obtain ⟨k, hk, rfl, htk, hbr⟩ := hrel
        have hs0 := Hs0.out
        have hbr2 := Hb0.out.trans (hbr.mono Hb0.out.size)
        have u1 : wr.cell? ⟨w.heap.size, 1, none⟩ = some (.slice Ab nb cb) := (cellOf hbr (by omega)).trans (cell_blk Hc0.out 1)
        have v1 : wr.cell? ⟨w.heap.size + 1, 1, none⟩ = some (.slice Bb nb db) := (cellOf hbr (by omega)).trans (cell_blk Hc1.out 1)
        rcases Nat.lt_or_ge k nb with hlt | hge
        · obtain ⟨bb, bo, rfl, hbb, hbc⟩ := HT.out.bl.at_ (by omega)
          obtain ⟨eb, eo, rfl, heb, hec⟩ := HU.out.bl.at_ (by omega)
          have hkx : k < T.bl.length := by rw [HTl.out]; exact hlt
          have hky : k < U.bl.length := by rw [HUl.out]; exact hlt
          obtain ⟨A1, n1, q1, g1, g2, _⟩ := hbc k hkx
          obtain ⟨A2, n2, q2, f1, f2, _⟩ := hec k hky
          have u2 := (cellOf hbr2 hbb).trans g1
          have v2 := (cellOf hbr2 heb).trans f1
          have hcmp := ref_Ints A1 A2 n1 q1 n2 q2 T.bl[k] U.bl[k] wr.drew ((g2.below hbr2.drew).more hbr2.drew.size) ((f2.below hbr2.drew).more hbr2.drew.size) (by rw [← g2.len]; exact Hbs.out _ (List.getElem_mem hkx))
          have hnk := Hnk.out k hkx hky
          have hnx := fun h => take_next hkx hky htk h
          generalize T.bl[k] = x at *
          generalize U.bl[k] = y at *
          have Hcmp := Lib.hid hcmp
          have Hnk2 := Lib.hid hnk
          have Hnx := Lib.hid hnx
          clear hcmp hnk hnx htk hbc hec g1 g2 f1 f2
          go_upto_region 6 with fail
          go_still_tail 10, (by kernel_rfl)
          go_wp2_with fail
          refine Hcmp.out.mono ?_
          rintro e w2 ⟨rfl, hb2⟩
          have hbq : Below W0.heap.size W0 w2 := hbr.drew.trans (hb2.mono hbr.drew.size)
          rcases hd : decide (x = y) with _ | _
          · have hn := Hnk2.out (of_decide_eq_false hd)
            subst hn
            clear hd
            go_wp2_with fail
            go_ret
            exact ⟨rfl, Hb0.out.trans (hbq.mono Hb0.out.size)⟩
          · have hn := Hnx.out (of_decide_eq_true hd)
            have Hn := Lib.hid hn
            clear hd hn
            go_wp2_with fail
            go_roundw
            case rel => exact ⟨k + 1, by omega, by go_num, Hn.out, hbq⟩
            case measure => simp [RowKit.intOf]; omega
        · have hn := Hall.out Hix.out (by rw [List.take_of_length_le (by rw [HTl.out]; exact hge), List.take_of_length_le (by rw [HUl.out]; exact hge)] at htk; exact htk)
          subst hn
          clear htk
          go_wp2_with fail
          go_ret
          exact ⟨rfl, hbr2⟩

set_option maxRecDepth 100000 in
set_option maxHeartbeats 4000000 in
theorem ref15_Right (Ai : Option Addr) (ni ci : Nat) (Ab : Option Addr) (nb cb : Nat) (wd : Bool) (T : TrV) (w : World) (hT : Tri w w.heap.size Ai ni Ab nb T) (hi : ni ≤ 1000000) (hnb : nb ≤ 1000000) (hbs : ∀ b ∈ T.bl, b.length ≤ 1000000) :
    Calls Tryz.prog 31 #[.agg #[.slice Ai ni ci, .slice Ab nb cb, .bool wd]] w fun e w' => e = .returned (.bool (rightW T)) ∧ Below w.heap.size w w' := by
  obtain ⟨W0, hW0⟩ : ∃ W0, W0 = w.alloc (.cells #[.slice Ai ni ci, .slice Ab nb cb, .bool wd] 42) := ⟨_, rfl⟩
  have hbw0 : Below w.heap.size w W0 := by rw [hW0]; go_grown
  have c0 : W0.heap[w.heap.size]? = some (.cells #[.slice Ai ni ci, .slice Ab nb cb, .bool wd] 42 (0, 0)) := by rw [hW0]; exact heap_new rfl
  have hs0 : W0.heap.size = w.heap.size + 1 := by rw [hW0]; simp
  have H0 := ref06_Right Ai ni ci Ab nb cb T W0 ((hT.below hbw0).more hbw0.size) hi hnb
  have hbad : ∀ (k : Nat) (h : k < T.bl.length) (j : Nat) (hj : j < T.bl[k].length), T.bl[k][j] > 6 → rightW T = false := fun k h j hj hx => by
    rw [Bool.eq_false_iff]
    intro hr
    unfold rightW at hr
    simp only [Bool.and_eq_true, List.all_eq_true, decide_eq_true_eq] at hr
    have := hr.2 _ (List.getElem_mem h) _ (List.getElem_mem hj)
    omega
  have hall : rightT T = true → (∀ (k : Nat) (h : k < T.bl.length) (j : Nat) (hj : j < T.bl[k].length), T.bl[k][j] ≤ 6) → rightW T = true := fun h1 h2 => by
    unfold rightW
    simp only [Bool.and_eq_true, List.all_eq_true, decide_eq_true_eq]
    refine ⟨h1, fun b hb v hv => ?_⟩
    obtain ⟨k, hk, rfl⟩ := List.getElem_of_mem hb
    obtain ⟨j, hj, rfl⟩ := List.getElem_of_mem hv
    have := h2 k hk j hj
    omega
  have hno : rightT T = false → rightW T = false := fun h => by unfold rightW; rw [h]; rfl
  have hTl := hT.bl.len
  rw [hW0] at H0
  generalize rightW T = R at *
  generalize rightT T = rt at *
  have HT := Lib.hid hT
  have Hbad := Lib.hid hbad
  have Hall := Lib.hid hall
  have Hno := Lib.hid hno
  have HTl := Lib.hid hTl
  have H0' := Lib.hid H0
  have Hb0 := Lib.hid hbw0
  have Hc0 := Lib.hid c0
  have Hs0 := Lib.hid hs0
  have HW0 := Lib.hid hW0
  have Hbs := Lib.hid hbs
  clear hT hbad hall hno hTl H0 hbw0 c0 hs0 hW0 hbs
  go_enter Tryz.func31, Tryz.ntmps31
  go_wp2_with fail
  refine H0'.out.mono ?_
  rintro e w1 ⟨rfl, hb1⟩
  rw [← HW0.out] at hb1
  have hs0 := Hs0.out
  have hbw1 := Hb0.out.trans (hb1.mono Hb0.out.size)
  rcases rt with _ | _
  · have hn := Hno.out rfl
    subst hn
    go_wp2_with fail
    go_ret
    exact ⟨rfl, hbw1⟩
  · clear H0'
    go_wp2_with fail
    go_loopw [3] (fun i wr => ∃ k : Nat, k ≤ nb ∧ i = .int .i64 (k : Int) ∧ (∀ (q : Nat) (_ : q < k) (h : q < T.bl.length) (j : Nat) (hj : j < T.bl[q].length), T.bl[q][j] ≤ 6) ∧ wr = w1) (fun i _ => nb - (RowKit.intOf i).toNat)
    case atStart => exact ⟨0, Nat.zero_le _, rfl, fun j h => absurd h (by omega), rfl⟩
    case round =>
      obtain ⟨k, hk, rfl, hnk, hwe⟩ := hrel
      subst hwe
      have u1 : wr.cell? ⟨w.heap.size, 1, none⟩ = some (.slice Ab nb cb) := (cellOf hb1 (by omega)).trans (cell_blk Hc0.out 1)
      rcases Nat.lt_or_ge k nb with hlt | hge
      · obtain ⟨bb, bo, rfl, hbb, hbc⟩ := HT.out.bl.at_ (by omega)
        have hkx : k < T.bl.length := by rw [HTl.out]; exact hlt
        obtain ⟨A1, n1, q1, g1, g2, _⟩ := hbc k hkx
        have u2 := (cellOf hbw1 hbb).trans g1
        have hln := g2.len
        have hn1 : n1 ≤ 1000000 := by rw [← hln]; exact Hbs.out _ (List.getElem_mem hkx)
        have hb2 := Hbad.out k hkx
        have hnk2 : (∀ (j : Nat) (hj : j < T.bl[k].length), T.bl[k][j] ≤ 6) → ∀ (q : Nat) (_ : q < k + 1) (h : q < T.bl.length) (j : Nat) (hj : j < T.bl[q].length), T.bl[q][j] ≤ 6 := fun hx q h1 h2 => by
          rcases Nat.lt_or_ge q k with h3 | h3
          · exact hnk q h3 h2
          · obtain rfl : q = k := by omega
            exact hx
        generalize T.bl[k] = b at *
        have Hb2 := Lib.hid hb2
        have Hnk2 := Lib.hid hnk2
        have Hg2 := Lib.hid g2
        have Hln := Lib.hid hln
        clear hb2 hnk2 hnk g1 g2 hbc hln
        go_wp2_with fail
        go_loopw [4] (fun i wr2 => ∃ j : Nat, j ≤ n1 ∧ i = .int .i64 (j : Int) ∧ (∀ (q : Nat) (_ : q < j) (h : q < b.length), b[q] ≤ 6) ∧ wr2 = wr) (fun i _ => n1 - (RowKit.intOf i).toNat)
        case atStart => exact ⟨0, Nat.zero_le _, rfl, fun j h => absurd h (by omega), rfl⟩
        case round =>
          obtain ⟨j, hj, rfl, hnj, hwe⟩ := hrel
          subst hwe
          rcases Nat.lt_or_ge j n1 with hlt | hge
          · obtain ⟨cb', co, rfl, hcb, hcc⟩ := Hg2.out.at_ (by omega)
            have hjl : j < b.length := by rw [Hln.out]; exact hlt
            have u3 := (cellOf hbw1 hcb).trans (hcc j hjl)
            have hb3 := Hb2.out j hjl
            have hnj2 : (b[j] ≤ 6) → ∀ (q : Nat) (_ : q < j + 1) (h : q < b.length), b[q] ≤ 6 := fun hx q h1 h2 => by
              rcases Nat.lt_or_ge q j with h3 | h3
              · exact hnj q h3 h2
              · obtain rfl : q = j := by omega
                exact hx
            generalize b[j] = x at *
            have Hb3 := Lib.hid hb3
            have Hnj2 := Lib.hid hnj2
            clear hb3 hnj2 hnj hcc
            rcases h1 : decide (x > 6) with _ | _
            · have hn := Hnj2.out (by have := of_decide_eq_false h1; omega)
              have Hn := Lib.hid hn
              clear hn
              go_wp2_with fail
              go_roundw
              case rel => exact ⟨j + 1, by omega, by go_num, Hn.out, by first | trivial | rfl⟩
              case measure => simp [RowKit.intOf]; omega
            · have hn := Hb3.out (of_decide_eq_true h1)
              subst hn
              go_wp2_with fail
              go_ret
              exact ⟨rfl, hbw1⟩
          · have hn := Hnk2.out (fun q hq => hnj q (by have := Hln.out; omega) hq)
            have Hn := Lib.hid hn
            clear hn hnj
            go_wp2_with fail
            go_roundw
            case rel => exact ⟨k + 1, by omega, by go_num, Hn.out, by first | trivial | rfl⟩
            case measure => simp [RowKit.intOf]; omega
      · have hn := Hall.out (by trivial) (fun q h => hnk q (by have := HTl.out; omega) h)
        subst hn
        clear hnk
        go_wp2_with fail
        go_ret
        exact ⟨rfl, hbw1⟩

theorem ref15_wide (Ai : Option Addr) (ni ci : Nat) (Ab : Option Addr) (nb cb : Nat) (wd : Bool) (T : TrV) (k : Nat) (w : World) (hT : Tri w w.heap.size Ai ni Ab nb T) (hr : rightT T = true) (hk : k ≤ 1114111) :
    Calls Tryz.prog 63 #[.agg #[.slice Ai ni ci, .slice Ab nb cb, .bool wd], .int .i64 (k : Int)] w fun e w' => e = .returned (.int .i64 (widT T wd (k : Int))) ∧ Below w.heap.size w w' := by
  obtain ⟨ib, io, bb, bo, b, o, c', n, rfl, rfl, hib, hbb, hbl, hn, rfl, hc', c1, c2, c3⟩ := hT.cell hr hk
  have hwv : widT T wd (k : Int) = widV wd (atT T k) := by unfold widT; rw [Int.toNat_natCast]
  rw [hwv]
  have e3 : k / 256 < 4352 := by omega
  have e4 : k % 256 < 256 := Nat.mod_lt _ (by decide)
  have e5 : ((k : Int)).tdiv 256 = ((k / 256 : Nat) : Int) := by rw [Int.tdiv_eq_ediv_of_nonneg (by omega)]; rfl
  have e6 : ((k : Int)).tmod 256 = ((k % 256 : Nat) : Int) := by rw [Int.tmod_eq_emod_of_nonneg (by omega)]; rfl
  have hb0 : Below w.heap.size w (w.alloc (.cells #[.slice (some ⟨ib, io, none⟩) 4352 ci, .slice (some ⟨bb, bo, none⟩) nb cb, .bool wd] 42)) := by go_grown
  have d1 := (cellOf hb0 hib).trans c1
  have d2 := (cellOf hb0 hbb).trans c2
  have d3 := (cellOf hb0 hbl).trans c3
  generalize atT T k = v at *
  generalize k / 256 = kq at *
  generalize k % 256 = kr at *
  clear c1 c2 c3 hwv hT hr
  by_cases h3 : v = 3
  · subst h3
    rw [show widV wd 3 = 2 from by cases wd <;> rfl]
    go_enter Tryz.func63, Tryz.ntmps63
    go_upto_region 1 with fail
    go_quiet (fail)
    go_wp2_with fail
    go_ret
    exact ⟨rfl, hb0.trans (Below.mono (below_drewN _ _ _) hb0.size)⟩
  · by_cases h4 : v = 4
    · subst h4
      rw [show widV wd 4 = 2 from by cases wd <;> rfl]
      go_enter Tryz.func63, Tryz.ntmps63
      go_upto_region 1 with fail
      go_quiet (fail)
      go_wp2_with fail
      go_ret
      exact ⟨rfl, hb0.trans (Below.mono (below_drewN _ _ _) hb0.size)⟩
    · by_cases h1 : v = 1
      · subst h1
        rcases wd with _ | _
        · rw [show widV false 1 = 1 from rfl]
          go_enter Tryz.func63, Tryz.ntmps63
          go_upto_region 1 with fail
          go_quiet (fail)
          go_wp2_with fail
          go_ret
          exact ⟨rfl, hb0.trans (Below.mono (below_drewN _ _ _) hb0.size)⟩
        · rw [show widV true 1 = 2 from rfl]
          go_enter Tryz.func63, Tryz.ntmps63
          go_upto_region 1 with fail
          go_quiet (fail)
          go_wp2_with fail
          go_ret
          exact ⟨rfl, hb0.trans (Below.mono (below_drewN _ _ _) hb0.size)⟩
      · by_cases h6 : v = 6
        · subst h6
          rw [show widV wd 6 = 0 from by cases wd <;> rfl]
          go_enter Tryz.func63, Tryz.ntmps63
          go_upto_region 1 with fail
          go_quiet (fail)
          go_wp2_with fail
          go_ret
          exact ⟨rfl, hb0.trans (Below.mono (below_drewN _ _ _) hb0.size)⟩
        · rw [show widV wd v = 1 from by unfold widV; rw [if_neg (by omega), if_neg h6]]
          have f3 : (v == 3) = false := by simpa using h3
          have f4 : (v == 4) = false := by simpa using h4
          have f1 : (v == 1) = false := by simpa using h1
          have f6 : (v == 6) = false := by simpa using h6
          clear h3 h4 h1 h6
          go_enter Tryz.func63, Tryz.ntmps63
          go_upto_region 1 with fail
          go_quiet (fail)
          go_wp2_with fail
          go_ret
          exact ⟨rfl, hb0.trans (Below.mono (below_drewN _ _ _) hb0.size)⟩
end Go.Vir


namespace Go.Vir
open Go Go.RowKit Go.Proofs
attribute [local go_sem] Oper.semAt_some

set_option maxRecDepth 100000 in
set_option maxHeartbeats 4000000 in
theorem ref15_Of (Ai : Option Addr) (ni ci : Nat) (Ab : Option Addr) (nb cb : Nat) (wd : Bool) (T : TrV) (r : Int) (w : World) (hT : Tri w w.heap.size Ai ni Ab nb T) (hi : ni ≤ 1000000) (hnb : nb ≤ 1000000) (hbs : ∀ b ∈ T.bl, b.length ≤ 1000000) :
    Calls Tryz.prog 28 #[.agg #[.slice Ai ni ci, .slice Ab nb cb, .bool wd], .int .i64 r] w fun e w' => e = .returned (.tuple #[.int .i64 (ofW T wd r).1, .int .i64 (ofW T wd r).2]) ∧ Below w.heap.size w w' := by
  obtain ⟨W0, hW0⟩ : ∃ W0, W0 = w.alloc (.cells #[.slice Ai ni ci, .slice Ab nb cb, .bool wd] 42) := ⟨_, rfl⟩
  have hbw : Below w.heap.size w W0 := by rw [hW0]; go_grown
  have hx0 : W0.heap[w.heap.size]? = some (.cells #[.slice Ai ni ci, .slice Ab nb cb, .bool wd] 42 (0, 0)) := by rw [hW0]; exact heap_new rfl
  have hT0 := (hT.below hbw).more hbw.size
  have e0 := cell_blk hx0 0
  have e1 := cell_blk hx0 1
  have e2 := cell_blk hx0 2
  have hrt := ref15_Right Ai ni ci Ab nb cb wd T W0 hT0 hi hnb hbs
  have hof : ofW T wd r = if rightW T = true then (if scaR r = true then (widT T wd r, 0) else (0, 10)) else (0, 130) := rfl
  have Hrt := Lib.hid hrt
  have Hof := Lib.hid hof
  have HT := Lib.hid hT0
  have Hbw := Lib.hid hbw
  have Hx := Lib.hid hx0
  clear hrt hof hT hT0 hbw hx0
  go_enter Tryz.func28, Tryz.ntmps28
  go_upto_region 1 with fail
  rw [← hW0]
  clear hW0
  go_wp2_with fail
  rcases hR : rightW T with _ | _
  · rw [hR] at Hrt
    have ho : ofW T wd r = (0, 130) := by rw [Hof.out, hR]; rfl
    have Ho := Lib.hid ho
    clear hR ho
    refine Hrt.out.mono ?_
    rintro e w1 ⟨rfl, hb1⟩
    have hbf := Hbw.out.trans (hb1.mono Hbw.out.size)
    go_wp2_with fail
    go_ret2
    exact ⟨by rw [Ho.out]; rfl, hbf⟩
  · have hrr := right_of_w hR
    rw [hR] at Hrt
    refine Hrt.out.mono ?_
    rintro e w1 ⟨rfl, hb1⟩
    have hbf := Hbw.out.trans (hb1.mono Hbw.out.size)
    have hsr := ref01_Right r w1
    rcases hsc : scaR r with _ | _
    · rw [hsc] at hsr
      have ho : ofW T wd r = (0, 10) := by rw [Hof.out, if_pos hR, hsc]; rfl
      have Ho := Lib.hid ho
      have Hsr := Lib.hid hsr
      clear hsr hsc ho hR
      go_wp2_with fail
      refine Hsr.out.mono ?_
      rintro e w2 ⟨rfl, hb2⟩
      have hbf2 := hbf.trans (hb2.mono hbf.size)
      go_wp2_with fail
      go_ret2
      exact ⟨by rw [Ho.out]; rfl, hbf2⟩
    · rw [hsc] at hsr
      obtain ⟨hr0, hr1⟩ := sca_bounds hsc
      obtain ⟨k, rfl⟩ := Int.eq_ofNat_of_zero_le hr0
      have ho : ofW T wd (k : Int) = (widT T wd (k : Int), 0) := by
        have := Hof.out
        rw [show ((k : Nat) : Int) = Int.ofNat k from rfl] at *
        rw [this, if_pos hR, hsc]; rfl
      have Ho := Lib.hid ho
      have Hsr := Lib.hid hsr
      clear hsr hsc ho hR
      go_wp2_with fail
      refine Hsr.out.mono ?_
      rintro e w2 ⟨rfl, hb2⟩
      have hbf2 := hbf.trans (hb2.mono hbf.size)
      have hb02 := hb1.trans (hb2.mono hb1.size)
      have hx2 := (hb02.block w.heap.size (Array.getElem?_eq_some_iff.1 Hx.out).1).trans Hx.out
      have f0 := cell_blk hx2 0
      have f1 := cell_blk hx2 1
      have f2 := cell_blk hx2 2
      have hwc := ref15_wide Ai ni ci Ab nb cb wd T k w2 ((HT.out.below hb02).more hb02.size) hrr (by omega)
      have Hwc := Lib.hid hwc
      clear hwc hx2
      go_wp2_with fail
      refine Hwc.out.mono ?_
      rintro e w3 ⟨rfl, hb3⟩
      have hbf3 := hbf2.trans (hb3.mono hbf2.size)
      go_wp2_with fail
      go_ret2
      exact ⟨by rw [Ho.out]; rfl, hbf3⟩
end Go.Vir


namespace Go.Vir
open Go Go.RowKit Go.Proofs Go.Shelf
attribute [local go_sem] Oper.semAt_some

theorem take_min (s : List UInt8) (n : Nat) : s.take (min s.length n) = s.take n := by
  rcases Nat.le_total s.length n with h | h
  · rw [Nat.min_eq_left h, List.take_length, List.take_of_length_le h]
  · rw [Nat.min_eq_right h]
end Go.Vir


namespace Go.Vir
open Go Go.RowKit Go.Proofs Go.ChangeShapes Go.WideShapes Go.ChangeAt Go.Proofs.YtjbeaheenfcgdaaGreatDoor

theorem returns_shaped {H : Type} {enc : TypeId × Value → H} {a : Assume} {C : Checked} {os : Os} {f : FuncId} {fn : Func} {s : ChangeSpec} {conds : List PathCond} {apart fresh handsOn again : Bool} {X : World → Array Value → Prop}
    (hX : ∀ (w w' : World) (args : Array Value), w.heap = w'.heap → X w args → X w' args)
    (own : ownKnob C.prog.godebug = none) (started : os.Started) (noInit : C.prog.inits.idxOf? f = none) (hfn : C.prog.funcs[f]? = some fn)
    (witness : ∃ (w : World) (tape : Tape) (i : Input), w.os = os ∧ (w.forCall tape i).Shaped C.prog ∧ i.vars = [] ∧ Input.okWide C.prog (w.forCall tape i) .any w.heap.size f i ∧
      ((s.pre enc C.prog fn conds apart (w.forCall tape i).memory i.args ∧ X (w.forCall tape i).memory i.args) ∧ sizedMet enc C.prog fn (OpenSpec.ofChange s) apart (w.forCall tape i).memory i.args) ∧ a.holds C.prog (lone (Frame.enter C.prog f i.args .normal) [] (w.forCall tape i)))
    (contract : ∀ (W : World) (base : Nat) (args : Array Value) (ds gs : List (DataW H)) (before : List MemPlace),
      (∀ (j : Nat) t v, fn.params[j]? = some t → args[j]? = some v → Value.okWide C.prog W .any base t v) →
      DataW.Whole enc C.prog fn.params.toList s.vars apart W args.toList ds gs before →
      W.ShapedOpen C.prog → X W args →
      Calls C.prog f args W fun e W' => ∃ v, e = .returned v ∧ s.post enc C.prog fn apart fresh handsOn again W args v W') :
    ReturnsInHanded a C os f .any (fun w args => (s.pre enc C.prog fn conds apart w args ∧ X w args) ∧ sizedMet enc C.prog fn (OpenSpec.ofChange s) apart w args) (s.post enc C.prog fn apart fresh handsOn again) := by
  refine returnsInHanded_of_calls own started noInit witness ?_
  intro w tape i _ hsh _ hok hpre hholds
  obtain ⟨_, _, _, fn', hfn', _, _, _, _, hval⟩ := hok
  have e : fn' = fn := Option.some.inj (hfn'.symm.trans hfn)
  subst e
  obtain ⟨⟨⟨ds, gs, before, hw, hc⟩, hx⟩, hz⟩ := hpre
  have hw' := DataW.Whole.of_heap (w' := w.forCall tape i) (by rfl) hw
  refine (contract (w.forCall tape i) w.heap.size i.args ds gs before hval hw' hsh (hX _ _ _ (by rfl) hx)).mono fun e W' ⟨v, he, hp⟩ => ?_
  subst he
  exact ChangeSpec.post_blind hp

theorem own : ownKnob Tryz.prog.godebug = none := by kernel_rfl
theorem laidOut : laidOutB Tryz.prog = true := by kernel_rfl
theorem gErr : Tryz.prog.globalNamed "errors.errorType" = some 7 := by kernel_rfl
theorem rtypeOne : (Tryz.prog.cutTypes.find? (·.1 == "internal/reflectlite.rtype")).map (·.2) = some 233 := by kernel_rfl
theorem errorOne : ((List.range Tryz.prog.types.size).filter fun t => Tryz.prog.rowNamed t [101, 114, 114, 111, 114]) = [67] := by kernel_rfl
theorem errHandle : typeHandle Tryz.prog 67 = .pointer (some ⟨12, 67, none⟩) := by kernel_rfl
theorem star_err : "*" ++ "errors.errorString" = "*errors.errorString" := by decide
theorem rowErr (u : TypeId) (h : Tryz.prog.typeName? 3 u = some "*errors.errorString") : u = 324 :=
  typeName_ptr_named (nm := "errors.errorString") (by rw [star_err]; kernel_rfl) (by kernel_rfl) (by decide) u (by rw [star_err]; exact h)
theorem cellsEs : Tryz.prog.cellsOf 343 = 1 := by kernel_rfl
theorem cellsStr : Tryz.prog.cellsOf 9 = 1 := by kernel_rfl

theorem mlen_of_shaped {W : World} (h : W.ShapedOpen Tryz.prog) : ∃ m, W.cell? ⟨9, 0, none⟩ = some (.int .i64 m) :=
  cell_of_shapedOpen_int (t := 3) (zero := #[.int .i64 0]) h (by decide +kernel) (by kernel_rfl) rfl (by kernel_rfl) (by kernel_rfl) (by kernel_rfl)

theorem size_of_shaped {W : World} (h : W.ShapedOpen Tryz.prog) : 12 ≤ W.heap.size := by
  have h0 : (((begin Tryz.prog (fun _ _ => 0) default).world.heap[12 - 1]?).bind Obj.row?).isSome = true := by kernel_rfl
  obtain ⟨⟨z, t⟩, hz⟩ := Option.isSome_iff_exists.1 h0
  obtain ⟨cs, hh, _, _⟩ := h.1 (12 - 1) z t (by decide +kernel) hz
  have := (Array.getElem?_eq_some_iff.1 hh).1
  omega

noncomputable def world0 (os : Os) : World :=
  let w0 := World.holding Tryz.prog os ⟨#[], #[], []⟩
  { w0 with heap := w0.heap.modify 7 fun
      | .cells _ t frozen => .cells #[.iface 233 (.agg #[.pointer (some ⟨12, 67, none⟩)])] t frozen
      | o => o }
end Go.Vir


namespace Go.Vir
open Go Go.RowKit Go.Proofs Go.ChangeShapes Go.WideShapes Go.ChangeAt Go.Proofs.YtjbeaheenfcgdaaGreatDoor

theorem gPrf : Tryz.prog.globalNamed "virama/prop.errFile" = some 1 := by kernel_rfl
theorem tPrf : (Tryz.prog.globals[1]?).map (·.type) = some 67 := by kernel_rfl
end Go.Vir


namespace Go.Vir
open Go Go.RowKit Go.Proofs Go.ChangeShapes Go.WideShapes Go.ChangeAt Go.Proofs.YtjbeaheenfcgdaaGreatDoor

theorem gXSs : Tryz.prog.globalNamed "virama/scalar.errScalar" = some 5 := by kernel_rfl
theorem tXSs : (Tryz.prog.globals[5]?).map (·.type) = some 67 := by kernel_rfl
theorem gXSu : Tryz.prog.globalNamed "virama/scalar.errUtf" = some 6 := by kernel_rfl
theorem tXSu : (Tryz.prog.globals[6]?).map (·.type) = some 67 := by kernel_rfl
theorem gXWw : Tryz.prog.globalNamed "virama/width.errWidth" = some 3 := by kernel_rfl
theorem tXWw : (Tryz.prog.globals[3]?).map (·.type) = some 67 := by kernel_rfl
theorem gXWs : Tryz.prog.globalNamed "virama/width.errScalar" = some 0 := by kernel_rfl
theorem tXWs : (Tryz.prog.globals[0]?).map (·.type) = some 67 := by kernel_rfl
theorem gXWu : Tryz.prog.globalNamed "virama/width.errUtf" = some 4 := by kernel_rfl
theorem tXWu : (Tryz.prog.globals[4]?).map (·.type) = some 67 := by kernel_rfl
def laidW : List (String × DataW Unit) := [("unicode/utf8.acceptRanges", Rows.laid_unicode_utf8_acceptRanges), ("errors.errorType", Rows.laid_errors_errorType), ("virama/scalar.errScalar", Rows.laid_virama_scalar_errScalar), ("virama/scalar.errUtf", Rows.laid_virama_scalar_errUtf), ("virama/prop.errFile", Rows.laid_virama_prop_errFile), ("virama/trie.errTrie", Rows.laid_virama_trie_errTrie), ("virama/trie.errRange", Rows.laid_virama_trie_errRange), ("virama/width.errWidth", Rows.laid_virama_width_errWidth), ("virama/width.errScalar", Rows.laid_virama_width_errScalar), ("virama/width.errUtf", Rows.laid_virama_width_errUtf), ("unicode/utf8.first", Rows.laid_unicode_utf8_first)]
def laidX : List (String × DataW Unit) := [("unicode/utf8.acceptRanges", Rows.laid_unicode_utf8_acceptRanges), ("virama/scalar.errScalar", Rows.laid_virama_scalar_errScalar), ("virama/scalar.errUtf", Rows.laid_virama_scalar_errUtf), ("virama/prop.errFile", Rows.laid_virama_prop_errFile), ("virama/trie.errTrie", Rows.laid_virama_trie_errTrie), ("virama/trie.errRange", Rows.laid_virama_trie_errRange), ("virama/width.errWidth", Rows.laid_virama_width_errWidth), ("virama/width.errScalar", Rows.laid_virama_width_errScalar), ("virama/width.errUtf", Rows.laid_virama_width_errUtf), ("unicode/utf8.first", Rows.laid_unicode_utf8_first)]
theorem laidW_split : (laidW.filter fun x => x.2.handleName?.isNone) = laidX := by rfl
theorem laidW_hand : (laidW.filter fun x => x.2.handleName?.isSome) = [("errors.errorType", Rows.laid_errors_errorType)] := by rfl

set_option maxRecDepth 100000 in
set_option maxHeartbeats 2000000 in
theorem gloW_of_laid {W : World} (hs : W.ShapedOpen Tryz.prog) (h : laidMetH Tryz.prog laidW W) : ∃ p q u p2 q2, GloW W p q u p2 q2 := by
  unfold laidMetH at h
  rw [laidW_split, laidW_hand] at h
  obtain ⟨⟨ps, ⟨g0, t0, cs0, f0, p0, q0, hg0, ht0, hv0, hd0, ⟨g1, t1, cs1, f1, p1, q1, hg1, ht1, hv1, hd1, ⟨g2, t2, cs2, f2, p2, q2, hg2, ht2, hv2, hd2, ⟨g3, t3, cs3, f3, p3, q3, hg3, ht3, hv3, hd3, ⟨g4, t4, cs4, f4, p4, q4, hg4, ht4, hv4, hd4, ⟨g5, t5, cs5, f5, p5, q5, hg5, ht5, hv5, hd5, ⟨g6, t6, cs6, f6, p6, q6, hg6, ht6, hv6, hd6, ⟨g7, t7, cs7, f7, p7, q7, hg7, ht7, hv7, hd7, ⟨g8, t8, cs8, f8, p8, q8, hg8, ht8, hv8, hd8, hrest, e8⟩, e7⟩, e6⟩, e5⟩, e4⟩, e3⟩, e2⟩, e1⟩, e0⟩, _, hrows⟩, hh⟩ := h
  obtain rfl := Option.some.inj (gXSs.symm.trans hg1)
  obtain rfl := Option.some.inj (tXSs.symm.trans ht1)
  obtain rfl := Option.some.inj (gXSu.symm.trans hg2)
  obtain rfl := Option.some.inj (tXSu.symm.trans ht2)
  obtain rfl := Option.some.inj (gPrf.symm.trans hg3)
  obtain rfl := Option.some.inj (tPrf.symm.trans ht3)
  obtain rfl := Option.some.inj (gXWw.symm.trans hg6)
  obtain rfl := Option.some.inj (tXWw.symm.trans ht6)
  obtain rfl := Option.some.inj (gXWs.symm.trans hg7)
  obtain rfl := Option.some.inj (tXWs.symm.trans ht7)
  obtain rfl := Option.some.inj (gXWu.symm.trans hg8)
  obtain rfl := Option.some.inj (tXWu.symm.trans ht8)
  obtain ⟨name, u, ty, n1, n2, n3, n4, n5⟩ := hh _ (List.mem_singleton.2 rfl)
  have en : name = [101, 114, 114, 111, 114] := (Option.some.inj n1).symm
  subst en
  obtain rfl := Option.some.inj (rtypeOne.symm.trans n2)
  have hm : ty ∈ (List.range Tryz.prog.types.size).filter fun t => Tryz.prog.rowNamed t [101, 114, 114, 111, 114] := List.mem_filter.2 ⟨List.mem_range.2 n3, n4⟩
  rw [errorOne] at hm
  obtain rfl := List.mem_singleton.1 hm
  rw [errHandle] at n5
  obtain ⟨l1⟩ := cs1
  obtain ⟨l2⟩ := cs2
  obtain ⟨l3⟩ := cs3
  obtain ⟨l6⟩ := cs6
  obtain ⟨l7⟩ := cs7
  obtain ⟨l8⟩ := cs8
  subst e8
  subst e7
  subst e6
  subst e5
  subst e4
  subst e3
  subst e2
  subst e1
  subst e0
  have ok1 : ∀ u v, l1 = [.iface u v] → Value.okWide Tryz.prog W .any 0 u v := fun u v e => by
    subst e
    exact (hrows 5 0 (by simp [MemPlace.row])).2 u v (by simpa using World.var?_cell hg1 hv1 0)
  have ok2 : ∀ u v, l2 = [.iface u v] → Value.okWide Tryz.prog W .any 0 u v := fun u v e => by
    subst e
    exact (hrows 6 0 (by simp [MemPlace.row])).2 u v (by simpa using World.var?_cell hg2 hv2 0)
  have ok3 : ∀ u v, l3 = [.iface u v] → Value.okWide Tryz.prog W .any 0 u v := fun u v e => by
    subst e
    exact (hrows 1 0 (by simp [MemPlace.row])).2 u v (by simpa using World.var?_cell hg3 hv3 0)
  have ok6 : ∀ u v, l6 = [.iface u v] → Value.okWide Tryz.prog W .any 0 u v := fun u v e => by
    subst e
    exact (hrows 3 0 (by simp [MemPlace.row])).2 u v (by simpa using World.var?_cell hg6 hv6 0)
  have ok7 : ∀ u v, l7 = [.iface u v] → Value.okWide Tryz.prog W .any 0 u v := fun u v e => by
    subst e
    exact (hrows 0 0 (by simp [MemPlace.row])).2 u v (by simpa using World.var?_cell hg7 hv7 0)
  have ok8 : ∀ u v, l8 = [.iface u v] → Value.okWide Tryz.prog W .any 0 u v := fun u v e => by
    subst e
    exact (hrows 4 0 (by simp [MemPlace.row])).2 u v (by simpa using World.var?_cell hg8 hv8 0)
  obtain ⟨a1, s1, rfl, hc1, hs1, _, rfl⟩ := errorString_of_trod Tryz.underlying67 rowErr Tryz.underlying324 Tryz.underlying343 rfl rfl Tryz.underlying9 cellsEs cellsStr hd1 ok1
  obtain ⟨a2, s2, rfl, hc2, hs2, _, rfl⟩ := errorString_of_trod Tryz.underlying67 rowErr Tryz.underlying324 Tryz.underlying343 rfl rfl Tryz.underlying9 cellsEs cellsStr hd2 ok2
  obtain ⟨a3, s3, rfl, hc3, hs3, _, rfl⟩ := errorString_of_trod Tryz.underlying67 rowErr Tryz.underlying324 Tryz.underlying343 rfl rfl Tryz.underlying9 cellsEs cellsStr hd3 ok3
  obtain ⟨a6, s6, rfl, hc6, hs6, _, rfl⟩ := errorString_of_trod Tryz.underlying67 rowErr Tryz.underlying324 Tryz.underlying343 rfl rfl Tryz.underlying9 cellsEs cellsStr hd6 ok6
  obtain ⟨a7, s7, rfl, hc7, hs7, _, rfl⟩ := errorString_of_trod Tryz.underlying67 rowErr Tryz.underlying324 Tryz.underlying343 rfl rfl Tryz.underlying9 cellsEs cellsStr hd7 ok7
  obtain ⟨a8, s8, rfl, hc8, hs8, _, rfl⟩ := errorString_of_trod Tryz.underlying67 rowErr Tryz.underlying324 Tryz.underlying343 rfl rfl Tryz.underlying9 cellsEs cellsStr hd8 ok8
  have b1 := (hrows a1.block a1.off (by simp [MemPlace.row])).1
  have b2 := (hrows a2.block a2.off (by simp [MemPlace.row])).1
  have b6 := (hrows a6.block a6.off (by simp [MemPlace.row])).1
  have b7 := (hrows a7.block a7.off (by simp [MemPlace.row])).1
  have b8 := (hrows a8.block a8.off (by simp [MemPlace.row])).1
  have n21 : a2 ≠ a1 := fun e => by
    rw [e] at hc2
    have h1 := Value.string.inj (Option.some.inj (hc2.symm.trans hc1))
    rw [h1, hs1] at hs2
    exact absurd hs2 (by decide)
  have n76 : a7 ≠ a6 := fun e => by
    rw [e] at hc7
    have h1 := Value.string.inj (Option.some.inj (hc7.symm.trans hc6))
    rw [h1, hs6] at hs7
    exact absurd hs7 (by decide)
  have n86 : a8 ≠ a6 := fun e => by
    rw [e] at hc8
    have h1 := Value.string.inj (Option.some.inj (hc8.symm.trans hc6))
    rw [h1, hs6] at hs8
    exact absurd hs8 (by decide)
  have n87 : a8 ≠ a7 := fun e => by
    rw [e] at hc8
    have h1 := Value.string.inj (Option.some.inj (hc8.symm.trans hc7))
    rw [h1, hs7] at hs8
    exact absurd hs8 (by decide)
  have hsz := size_of_shaped hs
  exact ⟨a6, a7, a8, a2, a1, ⟨⟨mlen_of_shaped hs, (Nat.lt_of_lt_of_le (by decide) hsz), by simpa using World.var?_cell gErr n5 0, (Nat.lt_of_lt_of_le (by decide) hsz)⟩, ⟨_, by simpa using World.var?_cell gPrf hv3 0⟩, (Nat.lt_of_lt_of_le (by decide) hsz)⟩,
    ⟨(by simpa using World.var?_cell gXWw hv6 0), (by simpa using World.var?_cell gXWs hv7 0), (by simpa using World.var?_cell gXWu hv8 0), (Nat.lt_of_lt_of_le (by decide) hsz), (Nat.lt_of_lt_of_le (by decide) hsz), (Nat.lt_of_lt_of_le (by decide) hsz), b6, b7, b8, n76, n86, n87⟩,
    ⟨(by simpa using World.var?_cell gXSu hv2 0), (by simpa using World.var?_cell gXSs hv1 0), (Nat.lt_of_lt_of_le (by decide) hsz), (Nat.lt_of_lt_of_le (by decide) hsz), b2, b1, n21⟩⟩

noncomputable def worldW (os : Os) : World := (world0 os).layVars Tryz.prog laidX
theorem worldW_os (os : Os) : (worldW os).os = os := World.layVars_os _ _ _
theorem worldW_metX (os : Os) (args : Array Value) : laidMet Tryz.prog laidX ((worldW os).forCall (fun _ _ => 0) ⟨#[], args, []⟩).memory := by
  have h : laidMet Tryz.prog laidX (worldW os) := laidMet_layVars (w0 := world0 os) (laidX.map (·.1)) [] (by rfl) (by kernel_rfl) (by kernel_rfl) LaidIn.none
  exact h.of_heap (by simp [World.memory, World.forCall, Input.heap])
theorem worldW_met (os : Os) (args : Array Value) : laidMetH Tryz.prog laidW ((worldW os).forCall (fun _ _ => 0) ⟨#[], args, []⟩).memory :=
  laidMetH_of_parts (by rw [laidW_split]; exact worldW_metX os args) (by kernel_rfl)
theorem worldW_shaped (os : Os) : (worldW os).Shaped Tryz.prog := World.shaped_of_ZipB (by kernel_rfl) (by kernel_rfl)

end Go.Vir


namespace Go.Vir
open Go Go.RowKit Go.Proofs Go.ChangeShapes Go.WideShapes Go.ChangeAt

set_option maxRecDepth 100000 in
theorem open_text {H : Type} {enc : TypeId × Value → H} {W : World} {base : Nat} {v : Value} {d : DataW H} {p : List MemPlace}
    (hval : Value.okWide Tryz.prog W .any base 9 v) (h : DataW.Trod enc Tryz.prog W 0 (fun _ => true) true 9 v d p) :
    ∃ s : List UInt8, v = .string ⟨s.toArray⟩ ∧ s.length ≤ 9223372036854775807 := by
  obtain ⟨s, rfl, _, _, hs⟩ := Go.ChangeMaps.open_string Tryz.underlying9 hval h
  refine ⟨s.data.toList, by simp, ?_⟩
  unfold maxLen at hs
  have : s.size = s.data.toList.length := Lib.size_eq s
  omega
end Go.Vir


namespace Go.Vir
open Go Go.RowKit Go.ChangeShapes
section
variable {H : Type} {enc : TypeId × Value → H} {P : Program} {w : World} {base : Nat} {spare : Nat → Bool} {held : Bool}
end
theorem and_mk {a b : Bool} (h1 : a = true) (h2 : b = true) : (a && b) = true := by rw [h1, h2]; rfl
end Go.Vir

