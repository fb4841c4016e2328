/- Joined texts: FpB, FpC, FrA, FrB, Gl, G5, Gp, G17, GC, Six. -/
import Derived.Test.YtfbgcoeialdhhaaGreatDoorHn
import Derived.Test.YtfbgcoeialdhhaaGreatDoorHm
import Derived.Test.YtfbgcoeialdhhaaGreatDoorHb
import Derived.Test.YtfbgcoeialdhhaaGreatDoorHc
import Derived.Test.YtfbgcoeialdhhaaGreatDoorHd
import Derived.Test.YtfbgcoeialdhhaaGreatDoorHk
import Derived.Test.YtfbgcoeialdhhaaGreatDoorRows
import Derived.Test.YtfbgcoeialdhhaaGreatDoorHa
import Derived.Laws.BytesString
import Derived.Laws.IdiomStrings
import Derived.Deep.RegionHeld3
import Derived.Deep.DeepCutAuto
import Derived.ProofKit
import Derived.OpenShut
import Derived.LaidMore
import Derived.LaidLaws
import Derived.LaidHandle
import Derived.Lay
import Derived.HandedShaped
import Derived.Shelf.Vars
import Derived.Stop.Joined
import Derived.ChangeSame
import Derived.Deep.Strs
import Derived.Lib.SmallJoins
import Derived.Carry
namespace Go.Vir
open Go Go.RowKit Go.Proofs Go.Shelf Go.Sort
attribute [local go_sem] Oper.semAt_some

structure MpsF (W : World) (B F : Nat) (A : Option Addr) (n : Nat) (l : List MpV) : Prop where
  len : l.length = n
  at_ : 0 < n → ∃ g, A = some ⟨g, 0, none⟩ ∧ F ≤ g ∧ g < W.heap.size ∧ ∀ (j : Nat) (h : j < l.length), ∃ A' n' c', W.cell? ⟨g, j * 2, none⟩ = some (.int .i64 l[j].f) ∧ W.cell? ⟨g, j * 2 + 1, none⟩ = some (.slice A' n' c') ∧ Ints W B A' n' l[j].ts ∧ n' ≤ c'
theorem MpsF.mps {W : World} {B F n : Nat} {A : Option Addr} {l : List MpV} (h : MpsF W B F A n l) (hB : B ≤ W.heap.size) : Mps W W.heap.size A n l := by
  refine ⟨h.len, fun hn => ?_⟩
  obtain ⟨g, e, _, hg, hc⟩ := h.at_ hn
  refine ⟨g, 0, e, hg, fun j hj => ?_⟩
  obtain ⟨A', n', c', a, b, c, d⟩ := hc j hj
  exact ⟨A', n', c', by rw [Nat.zero_add]; exact a, by rw [Nat.zero_add]; exact b, c.more hB, d⟩
theorem MpsF.keep {W W' : World} {B F n : Nat} {A : Option Addr} {l : List MpV} (h : MpsF W B F A n l) (hs : W.heap.size ≤ W'.heap.size) (h1 : ∀ k, k < B → W'.heap[k]? = W.heap[k]?) (h2 : ∀ k, F ≤ k → k < W.heap.size → W'.heap[k]? = W.heap[k]?) : MpsF W' B F A n l := by
  refine ⟨h.len, fun hn => ?_⟩
  obtain ⟨g, e, hF, hg, hc⟩ := h.at_ hn
  refine ⟨g, e, hF, by omega, fun j hj => ?_⟩
  obtain ⟨A', n', c', a, b, c, d⟩ := hc j hj
  exact ⟨A', n', c', (World.cell?_of_block (a := ⟨g, j * 2, none⟩) (h2 g hF hg)).trans a, (World.cell?_of_block (a := ⟨g, j * 2 + 1, none⟩) (h2 g hF hg)).trans b, c.lowB h1, d⟩
theorem MpsF.wider {W : World} {B F F' n : Nat} {A : Option Addr} {l : List MpV} (h : MpsF W B F A n l) (hF : F' ≤ F) : MpsF W B F' A n l :=
  ⟨h.len, fun hn => by obtain ⟨g, e, h1, h2, hc⟩ := h.at_ hn; exact ⟨g, e, by omega, h2, hc⟩⟩
theorem mpsF_own {W w : World} {B F : Nat} {v : Value} {rs : List MpV} {xs : List Value} (h : W.ownsRow F 39 2 v rs.length xs) (hr : MCs w B 0 none rs xs) (hb : Below B w W) :
    ∃ A n c, v = .slice A n c ∧ n ≤ c ∧ MpsF W B F A n rs := by
  rcases h.2 with ⟨rfl, h0⟩ | ⟨gb, cap, cur, rfl, hF, hg, hc, _, _, ht⟩
  · have : rs = [] := List.eq_nil_of_length_eq_zero h0
    subst this
    exact ⟨none, 0, 0, rfl, Nat.le_refl _, rfl, fun h => absurd h (by omega)⟩
  · refine ⟨_, _, cap, rfl, hc, rfl, fun h0 => ⟨gb, rfl, hF, (Array.getElem?_eq_some_iff.1 hg).1, fun j hj => ?_⟩⟩
    obtain ⟨A, n, c, hm, hn, h0, h1⟩ := hr.get j hj
    have key : ∀ i u, i < 2 → xs[j * 2 + i]? = some u → W.cell? ⟨gb, j * 2 + i, none⟩ = some u := fun i u hi hx => by
      rw [cell_blk hg]
      rw [← ht, List.getElem?_take] at hx
      split at hx
      · simpa using hx
      · cases hx
    exact ⟨A, n, c, key 0 _ (by omega) h0, key 1 _ (by omega) h1, hm.below hb, hn⟩

set_option maxRecDepth 100000 in
set_option maxHeartbeats 4000000 in
theorem law16_few (B : Nat) (A : Option Addr) (n c : Nat) (l : List MpV) (w : World) (hx : Mps w B A n l) (hB : B ≤ w.heap.size) (hn : n ≤ 9223372036854775807) (hts : ∀ x ∈ l, x.ts.length ≤ 9223372036854775807) :
    Calls Tryz.prog 43 #[.slice A n c] w fun e w' => (∃ A' n' c', e = .returned (.slice A' n' c') ∧ n' ≤ c' ∧ MpsF w' B w.heap.size A' n' (fewM l)) ∧ Below w.heap.size w w' := by
  obtain ⟨i0, hi0, hz0, hz1, hz2⟩ := info_parts map_info
  have Hx := Lib.hid hx
  have Hts := Lib.hid hts
  have Hlen := Lib.hid hx.len
  clear hx hts
  go_enter Tryz.func43, Tryz.ntmps43
  go_upto_region 3 with fail
  go_loopw [3, 4] (fun v i wr => ∃ k : Nat, k ≤ n ∧ k ≤ 40 ∧ i = .int .i64 (k : Int) ∧ ∃ v0 xs, v0 = v ∧ wr.ownsRow w.heap.size 39 2 v0 (fewM (l.take k)).length xs ∧ MCs w B 0 none (fewM (l.take k)) xs ∧ Below w.heap.size w wr) (fun _ i _ => 40 - (RowKit.intOf i).toNat)
  case atStart => exact ⟨0, Nat.zero_le _, Nat.zero_le _, rfl, .slice none 0 0, [], rfl, World.ownsRow_nil _ _ _ _, rfl, Below.refl _ _⟩
  case round =>
    obtain ⟨k, hk, hk40, rfl, v, xs, rfl, hown, hmc, hb⟩ := hrel
    by_cases hlt : k < n ∧ k < 40
    · obtain ⟨h1, h2⟩ := hlt
      obtain ⟨bb, bo, rfl, hbb, hbc⟩ := Hx.out.at_ (by omega)
      have hkl : k < l.length := by rw [Hlen.out]; exact h1
      obtain ⟨A1, n1, ca, hc0, hc1, hi1, hnc1⟩ := hbc k hkl
      have hl1 := hi1.len
      have hn1 : n1 ≤ 9223372036854775807 := by rw [← hl1]; exact Hts.out _ (List.getElem_mem hkl)
      have hsucc := fewM_succ hkl h2
      have hms := hmc.snoc (x := { f := l[k].f, ts := l[k].ts.take 5 }) (A := A1) (n := min n1 5) (c := ca) (hi1.front 5) (by omega) (fun h0 => by
        obtain ⟨b, o, e, _, _⟩ := hi1.at_ (by omega)
        exact ⟨b, o, e, Nat.zero_le _, by simp⟩)
      rw [← hsucc] at hms
      have hL : (fewM (l.take (k + 1))).length = (fewM (l.take k)).length + 1 := by rw [hsucc]; simp
      have hL40 := (fewM_len (l.take k)).1
      have y0 := (cellOf hb (show bb < w.heap.size by omega)).trans hc0
      have y1 := (cellOf hb (show bb < w.heap.size by omega)).trans hc1
      unfold mapCs at hms
      simp only at hms
      have hss := hb.size
      have hbl : bb < wr.drew.heap.size := by show bb < wr.heap.size; omega
      generalize l[k].f = f at *
      have hown1 := hown.drew.alloc (.cells #[.int .i64 f, .slice A1 (min n1 5) ca] 39)
      have hcs : ∀ (j : Nat) (u : Value), [Value.int .i64 f, Value.slice A1 (min n1 5) ca][j]? = some u → (wr.drew.alloc (.cells #[.int .i64 f, .slice A1 (min n1 5) ca] 39)).cell? ((⟨wr.drew.heap.size, 0, none⟩ : Addr).add j) = some u := cell_two_new wr.drew _ _ _
      have hbs : w.heap.size ≤ (wr.drew.alloc (.cells #[.int .i64 f, .slice A1 (min n1 5) ca] 39)).heap.size := by simp; omega
      have hba : Below w.heap.size w (wr.drew.alloc (.cells #[.int .i64 f, .slice A1 (min n1 5) ca] 39)) := hb.drew.alloc hss _
      have hgb : ∀ (V5 : World), (wr.drew.alloc (.cells #[.int .i64 f, .slice A1 (min n1 5) ca] 39)).grownBy V5 v.ownBlock → ∀ m, m < B → V5.heap[m]? = (wr.drew.alloc (.cells #[.int .i64 f, .slice A1 (min n1 5) ca] 39)).heap[m]? := fun V5 hg m hm => by
        refine hg.block m (by simp; omega) (fun e => ?_)
        have := (row_data hown m e.symm).1
        omega
      have hb5 : ∀ (V5 : World), (wr.drew.alloc (.cells #[.int .i64 f, .slice A1 (min n1 5) ca] 39)).grownBy V5 v.ownBlock → Below w.heap.size w V5 := fun V5 hg =>
        hba.grown hg hba.size (fun q hq => by have := (row_data hown q hq).1; omega)
      have Hcs := Lib.hid hcs
      have Hown1 := Lib.hid hown1
      have Hgb := Lib.hid hgb
      have Hb5 := Lib.hid hb5
      have HM := Lib.hid hms
      have HL := Lib.hid hL
      have hm3 : 0 ≤ min (n1 : Int) 5 := by omega
      have hm2 : min (n1 : Int) 5 ≤ (ca : Int) := by omega
      generalize (fewM (l.take k)).length = L at *
      clear hms hL hsucc hmc hown hown1 hcs hgb hb5 hba hb hc0 hc1 hi1 hl1 hbc hss
      go_upto_region 5 with fail
      refine wp_region_noPanic ?_
      refine wp_region_held_drew (S := (fun V => V.cell? ⟨bb, bo + k * 2, none⟩ = some (.int .i64 f) ∧ V.cell? ⟨bb, bo + k * 2 + 1, none⟩ = some (.slice A1 n1 ca))) (by kernel_rfl) ⟨y0, y1⟩ (fun hHeld => ?_)
      generalize hV1 : wr.drew = V1 at *
      have hHeld2 : (V1.alloc (.cells #[.int .i64 f, .slice A1 (min n1 5) ca] 39)).cell? ⟨bb, bo + k * 2, none⟩ = some (.int .i64 f) ∧ (V1.alloc (.cells #[.int .i64 f, .slice A1 (min n1 5) ca] 39)).cell? ⟨bb, bo + k * 2 + 1, none⟩ = some (.slice A1 n1 ca) := ⟨(World.cell?_alloc_lt _ _ _ (show bb < V1.heap.size by omega)).trans hHeld.1, (World.cell?_alloc_lt _ _ _ (show bb < V1.heap.size by omega)).trans hHeld.2⟩
      refine wpAnyH_take (i := 0) (v := v) rfl (by kernel_rfl) (by kernel_rfl) (by kernel_rfl) (fun _ _ _ h => h) (.inl ⟨by rfl, fun V hV => by obtain ⟨c0, c1⟩ := hV; go_simp⟩) hHeld ?_
      try simp only [Act.put, qB, qC, qE, qF, qG]
      refine wpAnyH_take (i := 1) (v := .slice (some ⟨bb, bo, none⟩) n c) rfl (by kernel_rfl) (by kernel_rfl) (by kernel_rfl) (fun _ _ _ h => h) (.inl ⟨by rfl, fun V hV => by obtain ⟨c0, c1⟩ := hV; go_simp⟩) hHeld ?_
      try simp only [Act.put, qB, qC, qD, qE, qF, qG]
      refine wpAnyH_take (i := 2) (v := .int .i64 (k : Int)) rfl (by kernel_rfl) (by kernel_rfl) (by kernel_rfl) (fun _ _ _ h => h) (.inl ⟨by rfl, fun V hV => by obtain ⟨c0, c1⟩ := hV; go_simp⟩) hHeld ?_
      try simp only [Act.put, qB, qC, qD, qE, qF, qG]
      refine wpAnyH_take (i := 3) (v := .pointer (some ⟨bb, bo + k * 2, none⟩)) rfl (by kernel_rfl) (by kernel_rfl) (by kernel_rfl) (fun _ _ _ h => h) (.inl ⟨by rfl, fun V hV => by obtain ⟨c0, c1⟩ := hV; go_simp⟩) hHeld ?_
      try simp only [Act.put, qB, qC, qD, qE, qF, qG]
      refine wpAnyH_take (i := 4) (v := .pointer (some ⟨bb, bo + k * 2, none⟩)) rfl (by kernel_rfl) (by kernel_rfl) (by kernel_rfl) (fun _ _ _ h => h) (.inl ⟨by rfl, fun V hV => by obtain ⟨c0, c1⟩ := hV; go_simp⟩) hHeld ?_
      try simp only [Act.put, qB, qC, qD, qE, qF, qG]
      refine wpAnyH_take (i := 5) (v := .int .i64 f) rfl (by kernel_rfl) (by kernel_rfl) (by kernel_rfl) (fun _ _ _ h => h) (.inl ⟨by rfl, fun V hV => by obtain ⟨c0, c1⟩ := hV; go_simp⟩) hHeld ?_
      try simp only [Act.put, qB, qC, qD, qE, qF, qG]
      refine wpAnyH_take (i := 6) (v := .slice (some ⟨bb, bo, none⟩) n c) rfl (by kernel_rfl) (by kernel_rfl) (by kernel_rfl) (fun _ _ _ h => h) (.inl ⟨by rfl, fun V hV => by obtain ⟨c0, c1⟩ := hV; go_simp⟩) hHeld ?_
      try simp only [Act.put, qB, qC, qD, qE, qF, qG]
      refine wpAnyH_take (i := 7) (v := .int .i64 (k : Int)) rfl (by kernel_rfl) (by kernel_rfl) (by kernel_rfl) (fun _ _ _ h => h) (.inl ⟨by rfl, fun V hV => by obtain ⟨c0, c1⟩ := hV; go_simp⟩) hHeld ?_
      try simp only [Act.put, qB, qC, qD, qE, qF, qG]
      refine wpAnyH_take (i := 8) (v := .pointer (some ⟨bb, bo + k * 2, none⟩)) rfl (by kernel_rfl) (by kernel_rfl) (by kernel_rfl) (fun _ _ _ h => h) (.inl ⟨by rfl, fun V hV => by obtain ⟨c0, c1⟩ := hV; go_simp⟩) hHeld ?_
      try simp only [Act.put, qB, qC, qD, qE, qF, qG]
      refine wpAnyH_take (i := 9) (v := .pointer (some ⟨bb, bo + k * 2 + 1, none⟩)) rfl (by kernel_rfl) (by kernel_rfl) (by kernel_rfl) (fun _ _ _ h => h) (.inl ⟨by rfl, fun V hV => by obtain ⟨c0, c1⟩ := hV; go_simp⟩) hHeld ?_
      try simp only [Act.put, qB, qC, qD, qE, qF, qG]
      refine wpAnyH_take (i := 10) (v := .slice A1 n1 ca) rfl (by kernel_rfl) (by kernel_rfl) (by kernel_rfl) (fun _ _ _ h => h) (.inl ⟨by rfl, fun V hV => by obtain ⟨c0, c1⟩ := hV; go_simp⟩) hHeld ?_
      try simp only [Act.put, qB, qC, qD, qE, qF, qG]
      refine wpAnyH_take (i := 11) (v := .slice (some ⟨bb, bo, none⟩) n c) rfl (by kernel_rfl) (by kernel_rfl) (by kernel_rfl) (fun _ _ _ h => h) (.inl ⟨by rfl, fun V hV => by obtain ⟨c0, c1⟩ := hV; go_simp⟩) hHeld ?_
      try simp only [Act.put, qB, qC, qD, qE, qF, qG]
      refine wpAnyH_take (i := 12) (v := .int .i64 (k : Int)) rfl (by kernel_rfl) (by kernel_rfl) (by kernel_rfl) (fun _ _ _ h => h) (.inl ⟨by rfl, fun V hV => by obtain ⟨c0, c1⟩ := hV; go_simp⟩) hHeld ?_
      try simp only [Act.put, qB, qC, qD, qE, qF, qG]
      refine wpAnyH_take (i := 13) (v := .pointer (some ⟨bb, bo + k * 2, none⟩)) rfl (by kernel_rfl) (by kernel_rfl) (by kernel_rfl) (fun _ _ _ h => h) (.inl ⟨by rfl, fun V hV => by obtain ⟨c0, c1⟩ := hV; go_simp⟩) hHeld ?_
      try simp only [Act.put, qB, qC, qD, qE, qF, qG]
      refine wpAnyH_take (i := 14) (v := .pointer (some ⟨bb, bo + k * 2 + 1, none⟩)) rfl (by kernel_rfl) (by kernel_rfl) (by kernel_rfl) (fun _ _ _ h => h) (.inl ⟨by rfl, fun V hV => by obtain ⟨c0, c1⟩ := hV; go_simp⟩) hHeld ?_
      try simp only [Act.put, qB, qC, qD, qE, qF, qG]
      refine wpAnyH_take (i := 15) (v := .slice A1 n1 ca) rfl (by kernel_rfl) (by kernel_rfl) (by kernel_rfl) (fun _ _ _ h => h) (.inl ⟨by rfl, fun V hV => by obtain ⟨c0, c1⟩ := hV; go_simp⟩) hHeld ?_
      try simp only [Act.put, qB, qC, qD, qE, qF, qG]
      refine wpAnyH_take (i := 16) (v := .int .i64 (n1 : Int)) rfl (by kernel_rfl) (by kernel_rfl) (by kernel_rfl) (fun _ _ _ h => h) (.inl ⟨by rfl, fun V hV => by obtain ⟨c0, c1⟩ := hV; go_simp⟩) hHeld ?_
      try simp only [Act.put, qB, qC, qD, qE, qF, qG]
      refine wpAnyH_take (i := 17) (v := .int .i64 (min (n1 : Int) 5)) rfl (by kernel_rfl) (by kernel_rfl) (by kernel_rfl) (fun _ _ _ h => h) (.inl ⟨by rfl, fun V hV => by obtain ⟨c0, c1⟩ := hV; go_simp⟩) hHeld ?_
      try simp only [Act.put, qB, qC, qD, qE, qF, qG]
      refine wpAnyH_take (i := 18) (v := .slice A1 (min n1 5) ca) rfl (by kernel_rfl) (by kernel_rfl) (by kernel_rfl) (fun _ _ _ h => h) (.inl ⟨by rfl, fun V hV => by obtain ⟨c0, c1⟩ := hV; go_simp; omega⟩) hHeld ?_
      try simp only [Act.put, qB, qC, qD, qE, qF, qG]
      refine wpAnyH_take (i := 19) (v := .agg #[.int .i64 f, .slice A1 (min n1 5) ca]) rfl (by kernel_rfl) (by kernel_rfl) (by kernel_rfl) (fun _ _ _ h => h) (.inl ⟨by rfl, fun V hV => by obtain ⟨c0, c1⟩ := hV; go_simp⟩) hHeld ?_
      try simp only [Act.put, qB, qC, qD, qE, qF, qG]
      refine wpAnyH_ready (rs := [20]) (by kernel_rfl) (by simp) ?_
      refine AllReadyH.cons rfl (fun K hK => ?_) AllReadyH.nil
      go_simp
      refine hK.out _ _ hHeld2 (fun hHeld => ?_)
      clear hK K
      try simp only [Act.put, qB, qC, qD, qE, qF, qG]
      refine wpAnyH_ready (rs := [21]) (by kernel_rfl) (by simp) ?_
      refine AllReadyH.cons rfl (fun K hK => ?_) AllReadyH.nil
      refine step_append_mine rfl _ _ 23 rfl w.heap.size 39 i0 (.agg #[.int .i64 0, .slice none 0 0]) 2 32 Tryz.underlying23 hi0 hz0 hz1 hz2 rfl (by decide) v L xs (by simp [Act.eval]) Hown1.out ⟨V1.heap.size, 0, none⟩ 1 1 [.int .i64 f, .slice A1 (min n1 5) ca] (by simp [Act.eval]) rfl Hcs.out (by intro u hu; simp at hu; rcases hu with rfl | rfl <;> rfl) (by simp only [maxLen]; omega) (by omega) hbs ?_
      intro v5 V5 hown5 hgrow
      have hH5 : V5.cell? ⟨bb, bo + k * 2, none⟩ = some (.int .i64 f) ∧ V5.cell? ⟨bb, bo + k * 2 + 1, none⟩ = some (.slice A1 n1 ca) := ⟨(World.cell?_of_block (a := ⟨bb, bo + k * 2, none⟩) (Hgb.out V5 hgrow bb hbb)).trans hHeld.1, (World.cell?_of_block (a := ⟨bb, bo + k * 2 + 1, none⟩) (Hgb.out V5 hgrow bb hbb)).trans hHeld.2⟩
      have hb5 := Hb5.out V5 hgrow
      have HO5 := Lib.hid hown5
      have HB5 := Lib.hid hb5
      clear hown5 hgrow hb5
      refine hK.out _ _ hH5 (fun hHeld => ?_)
      clear hK K
      try simp only [Act.put, qB, qC, qD, qE, qF, qG]
      refine wpAnyH_take (i := 22) (v := v5) rfl (by kernel_rfl) (by kernel_rfl) (by kernel_rfl) (fun _ _ _ h => h) (.inl ⟨by rfl, fun V hV => by go_simp⟩) hHeld ?_
      try simp only [Act.put, qB, qC, qD, qE, qF, qG]
      refine wpAnyH_done (by kernel_rfl) ?_ _
      refine NoPanic.normal ?_
      clear hHeld
      go_wp2_with fail
      go_roundw
      case rel => exact ⟨k + 1, by omega, by omega, by go_num, v5, xs ++ [.int .i64 f, .slice A1 (min n1 5) ca], rfl, (by rw [HL.out]; exact HO5.out), HM.out, HB5.out⟩
      case measure => simp [RowKit.intOf]; omega
    · have hfull : fewM (l.take k) = fewM l := by
        unfold fewM
        rw [List.take_take]
        congr 1
        rcases Nat.lt_or_ge k 40 with h | h
        · have hkn : l.length ≤ k := by rw [Hlen.out]; omega
          rw [List.take_of_length_le (by omega), List.take_of_length_le (by omega)]
        · congr 1; omega
      rw [hfull] at hown hmc
      obtain ⟨A', n', c', rfl, hnc, hf⟩ := mpsF_own hown hmc (hb.mono hB)
      have HF := Lib.hid hf
      have HB := Lib.hid hb
      clear hf hb hown hmc hfull
      rcases Nat.lt_or_ge k n with hkn | hkn
      · have h40 : ¬ k < 40 := fun h => hlt ⟨hkn, h⟩
        have h40i : ¬ (k : Int) < 40 := by omega
        go_wp2_with fail
        go_ret
        exact ⟨⟨A', n', c', rfl, hnc, HF.out⟩, HB.out⟩
      · have hkn2 : ¬ k < n := by omega
        go_wp2_with fail
        go_ret
        exact ⟨⟨A', n', c', rfl, hnc, HF.out⟩, HB.out⟩
end Go.Vir


namespace Go.Vir
open Go Go.RowKit Go.Proofs Go.Shelf
attribute [local go_sem] Oper.semAt_some

theorem results_cases1 {f : Func} {ts : Array Value} {W : World} {a : Nat} {u v x y z q : Value} {s : Tmp} (hf : f.results = #[.cell s 29]) (hs : ts[s]? = some (.pointer (some ⟨a, 0, none⟩)))
    (h0 : W.cell? ⟨a, 0, none⟩ = some u) (h1 : W.cell? ⟨a, 1, none⟩ = some v) (h2 : W.cell? ⟨a, 2, none⟩ = some x) (h3 : W.cell? ⟨a, 3, none⟩ = some y) (h4 : W.cell? ⟨a, 4, none⟩ = some z) (h5 : W.cell? ⟨a, 5, none⟩ = some q) :
    (results f ts).run Tryz.prog W = .ok (.agg #[u, v, x, y, z, q]) W := by
  simp [results, hf, hs, go_sem, h0, h1, h2, h3, h4, h5]
structure CasF (W : World) (B F : Nat) (a : CasA) (c : CasV) : Prop where
  lo : MpsF W B F a.Al a.nl c.lo
  ti : MpsF W B F a.At a.nt c.ti
  ca : TriF W B F a.Ci a.ni a.Cb a.nb c.ca
  ig : TriF W B F a.Ii a.mi a.Ib a.mb c.ig
theorem CasF.cas {W : World} {B F : Nat} {a : CasA} {c : CasV} (h : CasF W B F a c) (hB : B ≤ W.heap.size) : CasW W W.heap.size a c := ⟨h.lo.mps hB, h.ti.mps hB, h.ca.tri hB, h.ig.tri hB⟩
theorem CasF.keep {W W' : World} {B F : Nat} {a : CasA} {c : CasV} (h : CasF W B F a c) (hs : W.heap.size ≤ W'.heap.size) (h1 : ∀ k, k < B → W'.heap[k]? = W.heap[k]?) (h2 : ∀ k, F ≤ k → k < W.heap.size → W'.heap[k]? = W.heap[k]?) : CasF W' B F a c :=
  ⟨h.lo.keep hs h1 h2, h.ti.keep hs h1 h2, h.ca.keep hs h1 h2, h.ig.keep hs h1 h2⟩
structure CasS (a : CasA) (c : CasV) : Prop where
  nl : a.nl ≤ 9223372036854775807
  nt : a.nt ≤ 9223372036854775807
  ni : a.ni ≤ 9223372036854775807
  nb : a.nb ≤ 9223372036854775807
  mi : a.mi ≤ 9223372036854775807
  mb : a.mb ≤ 9223372036854775807
  ci : a.ni ≤ a.ci
  di : a.mi ≤ a.di
  lo : ∀ x ∈ c.lo, x.ts.length ≤ 9223372036854775807
  ti : ∀ x ∈ c.ti, x.ts.length ≤ 9223372036854775807
  ca : ∀ b ∈ c.ca.bl, b.length ≤ 9223372036854775807
  ig : ∀ b ∈ c.ig.bl, b.length ≤ 9223372036854775807
theorem tab_ok {W : World} {B F : Nat} {a : CasA} {c : CasV} (h : CasF W B F a (tabC c)) : CasOk a (tabC c) := by
  obtain ⟨l1, l2⟩ := fewM_len c.lo
  obtain ⟨l3, l4⟩ := fewM_len c.ti
  obtain ⟨t1, t2, t3⟩ := cutT_len c.ca
  obtain ⟨t4, t5, t6⟩ := cutT_len c.ig
  have e1 : (tabC c).lo.length = a.nl := h.lo.len
  have e2 : (tabC c).ti.length = a.nt := h.ti.len
  have e3 : (tabC c).ca.ix.length = a.ni := h.ca.ix.len
  have e4 : (tabC c).ca.bl.length = a.nb := h.ca.len
  have e5 : (tabC c).ig.ix.length = a.mi := h.ig.ix.len
  have e6 : (tabC c).ig.bl.length = a.mb := h.ig.len
  have q1 : (fewM c.lo).length = a.nl := e1
  have q2 : (fewM c.ti).length = a.nt := e2
  have q3 : (cutT c.ca).ix.length = a.ni := e3
  have q4 : (cutT c.ca).bl.length = a.nb := e4
  have q5 : (cutT c.ig).ix.length = a.mi := e5
  have q6 : (cutT c.ig).bl.length = a.mb := e6
  exact ⟨by omega, by omega, by omega, by omega, by omega, by omega, fun x hx => by have := l2 x hx; omega, fun x hx => by have := l4 x hx; omega, fun b hb => by have := t3 b hb; omega, fun b hb => by have := t6 b hb; omega⟩

set_option maxRecDepth 100000 in
set_option maxHeartbeats 8000000 in
theorem law16_Table (B : Nat) (a : CasA) (c : CasV) (w : World) (hC : CasW w B a c) (hB : B ≤ w.heap.size) (hS : CasS a c) :
    Calls Tryz.prog 21 #[a.val] w fun e w' => (∃ a', e = .returned a'.val ∧ CasF w' B w.heap.size a' (tabC c)) ∧ Below w.heap.size w w' := by
  have Hl := Lib.hid (fun (W : World) (hW : Below w.heap.size w W) => law16_few B a.Al a.nl a.cl c.lo W (Mps.below hC.lo (hW.mono hB)) (Nat.le_trans hB hW.size) hS.nl hS.lo)
  have Ht := Lib.hid (fun (W : World) (hW : Below w.heap.size w W) => law16_few B a.At a.nt a.ct c.ti W (Mps.below hC.ti (hW.mono hB)) (Nat.le_trans hB hW.size) hS.nt hS.ti)
  have Hc := Lib.hid (fun (W : World) (hW : Below w.heap.size w W) => law06_Table B a.Ci a.ni a.ci a.Cb a.nb a.cb c.ca W (Tri.below hC.ca (hW.mono hB)) (Nat.le_trans hB hW.size) hS.ci hS.nb hS.ni hS.ca)
  have Hg := Lib.hid (fun (W : World) (hW : Below w.heap.size w W) => law06_Table B a.Ii a.mi a.di a.Ib a.mb a.db c.ig W (Tri.below hC.ig (hW.mono hB)) (Nat.le_trans hB hW.size) hS.di hS.mb hS.mi hS.ig)
  clear hC hS
  obtain ⟨Al, nl, cl, At, nt, ct, Ci, ni, ci, Cb, nb, cb, Ii, mi, di, Ib, mb, db⟩ := a
  simp only [CasA.val, CasA.cs]
  simp only at Hl Ht Hc Hg
  obtain ⟨W0, hW0⟩ : ∃ W0, W0 = (w.alloc (.cells #[.slice Al nl cl, .slice At nt ct, .slice Ci ni ci, .slice Cb nb cb, .slice Ii mi di, .slice Ib mb db] 29)).alloc (.cells #[.slice none 0 0, .slice none 0 0, .slice none 0 0, .slice none 0 0, .slice none 0 0, .slice none 0 0] 29) := ⟨_, rfl⟩
  have hbw0 : Below w.heap.size w W0 := by rw [hW0]; go_grown
  have hx0 : W0.heap[w.heap.size]? = some (.cells #[.slice Al nl cl, .slice At nt ct, .slice Ci ni ci, .slice Cb nb cb, .slice Ii mi di, .slice Ib mb db] 29 (0, 0)) := (by rw [hW0]; simp (disch := (first | omega | (simp only [World.size_alloc]; done) | (simp only [World.size_alloc]; omega))) only [heap_laws])
  have hz0 : W0.heap[w.heap.size + 1]? = some (.cells #[.slice none 0 0, .slice none 0 0, .slice none 0 0, .slice none 0 0, .slice none 0 0, .slice none 0 0] 29 (0, 0)) := (by rw [hW0]; simp (disch := (first | omega | (simp only [World.size_alloc]; done) | (simp only [World.size_alloc]; omega))) only [heap_laws])
  have hsz : W0.heap.size = w.heap.size + 2 := by rw [hW0]; simp
  obtain ⟨e0, e1, e2, e3, e4, e5⟩ := cells6 hx0
  have Hbw0 := Lib.hid hbw0
  have Hx0 := Lib.hid hx0
  have Hz0 := Lib.hid hz0
  clear hbw0 hx0 hz0
  go_enter Tryz.func21, Tryz.ntmps21
  go_upto_region 1 with fail
  rw [← hW0]
  clear hW0
  refine wp_region_noPanic ?_
  refine wp_region_held_drew (S := (fun V => V.cell? ⟨w.heap.size, 0, none⟩ = some (.slice Al nl cl) ∧ V.cell? ⟨w.heap.size, 1, none⟩ = some (.slice At nt ct) ∧ V.cell? ⟨w.heap.size, 2, none⟩ = some (.slice Ci ni ci) ∧ V.cell? ⟨w.heap.size, 3, none⟩ = some (.slice Cb nb cb) ∧ V.cell? ⟨w.heap.size, 4, none⟩ = some (.slice Ii mi di) ∧ V.cell? ⟨w.heap.size, 5, none⟩ = some (.slice Ib mb db))) (by kernel_rfl) ⟨e0, e1, e2, e3, e4, e5⟩ (fun hHeld => ?_)
  refine wpAnyH_take (i := 0) (v := .pointer (some ⟨w.heap.size, 0, none⟩)) rfl (by kernel_rfl) (by kernel_rfl) (by kernel_rfl) (fun _ _ _ h => h) (.inl ⟨by rfl, fun V hV => by obtain ⟨c0, c1, c2, c3, c4, c5⟩ := hV; go_simp⟩) hHeld ?_
  try simp only [Act.put, qB, qC, qE, qF, qG]
  refine wpAnyH_take (i := 1) (v := .slice Al nl cl) rfl (by kernel_rfl) (by kernel_rfl) (by kernel_rfl) (fun _ _ _ h => h) (.inl ⟨by rfl, fun V hV => by obtain ⟨c0, c1, c2, c3, c4, c5⟩ := hV; go_simp⟩) hHeld ?_
  try simp only [Act.put, qB, qC, qD, qE, qF, qG]
  refine wpAnyH_take (i := 3) (v := .pointer (some ⟨w.heap.size, 1, none⟩)) rfl (by kernel_rfl) (by kernel_rfl) (by kernel_rfl) (fun _ _ _ h => h) (.inl ⟨by rfl, fun V hV => by obtain ⟨c0, c1, c2, c3, c4, c5⟩ := hV; go_simp⟩) hHeld ?_
  try simp only [Act.put, qB, qC, qD, qE, qF, qG]
  refine wpAnyH_take (i := 4) (v := .slice At nt ct) rfl (by kernel_rfl) (by kernel_rfl) (by kernel_rfl) (fun _ _ _ h => h) (.inl ⟨by rfl, fun V hV => by obtain ⟨c0, c1, c2, c3, c4, c5⟩ := hV; go_simp⟩) hHeld ?_
  try simp only [Act.put, qB, qC, qD, qE, qF, qG]
  refine wpAnyH_take (i := 6) (v := .pointer (some ⟨w.heap.size, 2, none⟩)) rfl (by kernel_rfl) (by kernel_rfl) (by kernel_rfl) (fun _ _ _ h => h) (.inl ⟨by rfl, fun V hV => by obtain ⟨c0, c1, c2, c3, c4, c5⟩ := hV; go_simp⟩) hHeld ?_
  try simp only [Act.put, qB, qC, qD, qE, qF, qG]
  refine wpAnyH_take (i := 7) (v := .agg #[.slice Ci ni ci, .slice Cb nb cb]) rfl (by kernel_rfl) (by kernel_rfl) (by kernel_rfl) (fun _ _ _ h => h) (.inl ⟨by rfl, fun V hV => by obtain ⟨c0, c1, c2, c3, c4, c5⟩ := hV; go_simp⟩) hHeld ?_
  try simp only [Act.put, qB, qC, qD, qE, qF, qG]
  refine wpAnyH_take (i := 9) (v := .pointer (some ⟨w.heap.size, 4, none⟩)) rfl (by kernel_rfl) (by kernel_rfl) (by kernel_rfl) (fun _ _ _ h => h) (.inl ⟨by rfl, fun V hV => by obtain ⟨c0, c1, c2, c3, c4, c5⟩ := hV; go_simp⟩) hHeld ?_
  try simp only [Act.put, qB, qC, qD, qE, qF, qG]
  refine wpAnyH_take (i := 10) (v := .agg #[.slice Ii mi di, .slice Ib mb db]) rfl (by kernel_rfl) (by kernel_rfl) (by kernel_rfl) (fun _ _ _ h => h) (.inl ⟨by rfl, fun V hV => by obtain ⟨c0, c1, c2, c3, c4, c5⟩ := hV; go_simp⟩) hHeld ?_
  try simp only [Act.put, qB, qC, qD, qE, qF, qG]
  refine wpAnyH_ready (rs := [2]) (by kernel_rfl) (by simp) ?_
  refine AllReadyH.cons rfl (fun K hK => ?_) AllReadyH.nil
  go_simp
  refine (Hl.out _ (Hbw0.out.drew)).mono ?_
  rintro e wA ⟨⟨Pl, ul, vl, rfl, ku1, hF1⟩, hbA⟩
  have hq0 : Below W0.heap.size W0 W0.drew := (Below.refl _ _).drew
  have hsz0 : W0.drew.heap.size = W0.heap.size := rfl
  have hqA := hq0.trans (hbA.mono hq0.size)
  have hxA := (hqA.block w.heap.size (by omega)).trans Hx0.out
  have hsA := hqA.size
  have HF1 := Lib.hid (hF1.wider (show w.heap.size + 2 ≤ W0.drew.heap.size by omega))
  clear hF1
  refine hK.out _ _ ⟨cell_blk hxA 0, cell_blk hxA 1, cell_blk hxA 2, cell_blk hxA 3, cell_blk hxA 4, cell_blk hxA 5⟩ (fun hHeld => ?_)
  clear hK K
  try simp only [Act.put, qB, qC, qD, qE, qF, qG]
  refine wpAnyH_ready (rs := [5]) (by kernel_rfl) (by simp) ?_
  refine AllReadyH.cons rfl (fun K hK => ?_) AllReadyH.nil
  go_simp
  refine (Ht.out _ (Hbw0.out.trans (hqA.mono Hbw0.out.size))).mono ?_
  rintro e wB ⟨⟨Pt, ut, vt, rfl, ku2, hF2⟩, hbB⟩
  have hqB := hqA.trans (hbB.mono hqA.size)
  have hxB := (hqB.block w.heap.size (by omega)).trans Hx0.out
  have hsB := hqB.size
  replace HF1 := Lib.hid (HF1.out.keep hbB.size (fun k hk => hbB.block k (by omega)) (fun k _ hk => hbB.block k hk))
  have HF2 := Lib.hid (hF2.wider (show w.heap.size + 2 ≤ wA.heap.size by omega))
  clear hF2
  refine hK.out _ _ ⟨cell_blk hxB 0, cell_blk hxB 1, cell_blk hxB 2, cell_blk hxB 3, cell_blk hxB 4, cell_blk hxB 5⟩ (fun hHeld => ?_)
  clear hK K
  try simp only [Act.put, qB, qC, qD, qE, qF, qG]
  refine wpAnyH_ready (rs := [8]) (by kernel_rfl) (by simp) ?_
  refine AllReadyH.cons rfl (fun K hK => ?_) AllReadyH.nil
  go_simp
  refine (Hc.out _ (Hbw0.out.trans (hqB.mono Hbw0.out.size))).mono ?_
  rintro e wC ⟨⟨ui, Qd, ud, vd, rfl, ka1, ka2, ka3, ka4, hF3⟩, hbC⟩
  have hsB2 := hqB.size
  have hqC := hqB.trans (hbC.mono hqB.size)
  have hxC := (hqC.block w.heap.size (by omega)).trans Hx0.out
  have hsC := hqC.size
  replace HF1 := Lib.hid (HF1.out.keep hbC.size (fun k hk => hbC.block k (by omega)) (fun k _ hk => hbC.block k hk))
  replace HF2 := Lib.hid (HF2.out.keep hbC.size (fun k hk => hbC.block k (by omega)) (fun k _ hk => hbC.block k hk))
  have HF3 := Lib.hid (hF3.wider (show w.heap.size + 2 ≤ wB.heap.size by omega))
  clear hF3
  refine hK.out _ _ ⟨cell_blk hxC 0, cell_blk hxC 1, cell_blk hxC 2, cell_blk hxC 3, cell_blk hxC 4, cell_blk hxC 5⟩ (fun hHeld => ?_)
  clear hK K
  try simp only [Act.put, qB, qC, qD, qE, qF, qG]
  refine wpAnyH_ready (rs := [11]) (by kernel_rfl) (by simp) ?_
  refine AllReadyH.cons rfl (fun K hK => ?_) AllReadyH.nil
  go_simp
  refine (Hg.out _ (Hbw0.out.trans (hqC.mono Hbw0.out.size))).mono ?_
  rintro e wD ⟨⟨xi, Qj, uj, vj, rfl, kb1, kb2, kb3, kb4, hF4⟩, hbD⟩
  have hqD := hqC.trans (hbD.mono hqC.size)
  have hxD := (hqD.block w.heap.size (by omega)).trans Hx0.out
  have hsD := hqD.size
  replace HF1 := Lib.hid (HF1.out.keep hbD.size (fun k hk => hbD.block k (by omega)) (fun k _ hk => hbD.block k hk))
  replace HF2 := Lib.hid (HF2.out.keep hbD.size (fun k hk => hbD.block k (by omega)) (fun k _ hk => hbD.block k hk))
  replace HF3 := Lib.hid (HF3.out.keep hbD.size (fun k hk => hbD.block k (by omega)) (fun k _ hk => hbD.block k hk))
  have HF4 := Lib.hid (hF4.wider (show w.heap.size + 2 ≤ wC.heap.size by omega))
  clear hF4
  refine hK.out _ _ ⟨cell_blk hxD 0, cell_blk hxD 1, cell_blk hxD 2, cell_blk hxD 3, cell_blk hxD 4, cell_blk hxD 5⟩ (fun hHeld => ?_)
  clear hK K
  try simp only [Act.put, qB, qC, qD, qE, qF, qG]
  refine wpAnyH_take (i := 12) (v := .agg #[.slice Pl ul vl, .slice Pt ut vt, .slice Ci ui ci, .slice Qd ud vd, .slice Ii xi di, .slice Qj uj vj]) rfl (by kernel_rfl) (by kernel_rfl) (by kernel_rfl) (fun _ _ _ h => h) (.inl ⟨by rfl, fun V hV => by obtain ⟨c0, c1, c2, c3, c4, c5⟩ := hV; go_simp⟩) hHeld ?_
  try simp only [Act.put, qB, qC, qD, qE, qF, qG]
  refine wpAnyH_ready (rs := [13]) (by kernel_rfl) (by simp) ?_
  refine AllReadyH.cons rfl (fun K hK => ?_) AllReadyH.nil
  have hz4 := (hqD.block (w.heap.size + 1) (by omega)).trans Hz0.out
  have hbwD := Hbw0.out.trans (hqD.mono Hbw0.out.size)
  obtain ⟨g1, g2, g3, g4⟩ := six_stored (.slice Pl ul vl) (.slice Pt ut vt) (.slice Ci ui ci) (.slice Qd ud vd) (.slice Ii xi di) (.slice Qj uj vj) hz4 hbwD (Nat.le_succ _)
  obtain ⟨i0, i1, i2, i3, i4, i5⟩ := cells6 hz4
  have s0 := frozen_blk hz4 0
  have s1 := frozen_blk hz4 1
  have s2 := frozen_blk hz4 2
  have s3 := frozen_blk hz4 3
  have s4 := frozen_blk hz4 4
  have s5 := frozen_blk hz4 5
  have hxE := (g3 w.heap.size (by omega)).trans hxD
  have hE := And.intro (cell_blk hxE 0) (And.intro (cell_blk hxE 1) (And.intro (cell_blk hxE 2) (And.intro (cell_blk hxE 3) (And.intro (cell_blk hxE 4) (cell_blk hxE 5)))))
  replace HF1 := Lib.hid (HF1.out.keep (Nat.le_of_eq g4.symm) (fun k hk => g3 k (by omega)) (fun k hk _ => g3 k (by omega)))
  replace HF2 := Lib.hid (HF2.out.keep (Nat.le_of_eq g4.symm) (fun k hk => g3 k (by omega)) (fun k hk _ => g3 k (by omega)))
  replace HF3 := Lib.hid (HF3.out.keep (Nat.le_of_eq g4.symm) (fun k hk => g3 k (by omega)) (fun k hk _ => g3 k (by omega)))
  replace HF4 := Lib.hid (HF4.out.keep (Nat.le_of_eq g4.symm) (fun k hk => g3 k (by omega)) (fun k hk _ => g3 k (by omega)))
  have G1 := Lib.hid g1
  have G2 := Lib.hid g2
  have HE := Lib.hid hE
  clear g1 g2 g3 g4 hxE hE hz4 hbwD
  go_simp
  refine hK.out _ _ HE.out (fun hHeld => ?_)
  clear hK K
  try simp only [Act.put, qB, qC, qD, qE, qF, qG]
  refine wpAnyH_done (by kernel_rfl) ?_ _
  refine NoPanic.normal ?_
  obtain ⟨j0, j1, j2, j3, j4, j5⟩ := cells6 G1.out
  go_wp2_with fail
  (try simp only [Exit.inBlock, Exit.then])
  refine bodyPost_ret (v := .agg #[.slice Pl ul vl, .slice Pt ut vt, .slice Ci ui ci, .slice Qd ud vd, .slice Ii xi di, .slice Qj uj vj]) (results_cases1 rfl rfl j0 j1 j2 j3 j4 j5) rfl ⟨?_, G2.out⟩
  refine ⟨⟨Pl, ul, vl, Pt, ut, vt, Ci, ui, ci, Qd, ud, vd, Ii, xi, di, Qj, uj, vj⟩, rfl, ?_, ?_, ?_, ?_⟩
  · exact HF1.out.wider (by omega)
  · exact HF2.out.wider (by omega)
  · exact HF3.out.wider (by omega)
  · exact HF4.out.wider (by omega)
end Go.Vir


namespace Go.Vir
open Go Go.RowKit Go.Proofs
attribute [local go_sem] Oper.semAt_some

theorem zu8_info : (Tryz.prog.info? 5).map (fun i => (i.zero, i.size, i.bytes)) = some (some (.int .u8 0), 1, 1) := by kernel_rfl
def BytN (W : World) (p : Nat) (l : List UInt8) : Prop := W.heap[p]? = some (.cells (l.map encB).toArray 5 (0, 0))
theorem byte_wrap (z : Int) : ∃ q : UInt8, IntKind.u8.wrap z = (q.toNat : Int) := by
  refine ⟨UInt8.ofNat (IntKind.u8.wrap z).toNat, ?_⟩
  have h : 0 ≤ IntKind.u8.wrap z ∧ IntKind.u8.wrap z < 256 := by
    simp [IntKind.wrap, IntKind.bits, IntKind.signed]; omega
  rw [UInt8.toNat_ofNat']
  omega
theorem byte_or (a b : Int) : ∃ q : UInt8, bits .or .u8 a b = (q.toNat : Int) := by
  show ∃ q : UInt8, IntKind.u8.wrap _ = _
  exact byte_wrap _
theorem BytN.set {W : World} {p : Nat} {l : List UInt8} (h : BytN W p l) (j : Nat) (b : UInt8) : BytN (W.setCell ⟨p, j, none⟩ (.int .u8 (b.toNat : Int))) p (l.set j b) := by
  unfold BytN at *
  rw [setCell_blk h j]
  simp [List.map_set, encB]
theorem BytN.store {W : World} {p : Nat} {l : List UInt8} (h : BytN W p l) (j : Nat) (a b : Int) : ∃ l' : List UInt8, l'.length = l.length ∧ BytN (W.setCell ⟨p, j, none⟩ (.int .u8 (bits .or .u8 a b))) p l' := by
  obtain ⟨q, hq⟩ := byte_or a b
  exact ⟨l.set j q, by simp, by rw [hq]; exact h.set j q⟩
theorem BytN.str {W : World} {p : Nat} {l : List UInt8} (h : BytN W p l) (c : Nat) : (convert 98 9 (.slice (some ⟨p, 0, none⟩) l.length c)).run Tryz.prog W = .ok (.string ⟨l.toArray⟩) W :=
  run_convert_bytes_back W _ _ 5 ⟨p, 0, none⟩ c l Tryz.underlying98 Tryz.underlying5 Tryz.underlying9 (fun j hj => by
    have e : (Addr.add ⟨p, 0, none⟩ j) = ⟨p, j, none⟩ := by
      unfold Addr.add
      split <;> simp_all
    rw [e, cell_blk h]
    simp [hj, encB])
theorem made_byt {w : World} {base g m : Nat} (h : w.ownsRow base 5 1 (.slice (some ⟨g, 0, none⟩) m m) m (madeCells (Value.int .u8 0).cells (m * 1)).toList) : BytN w g (List.replicate m 0) := by
  rcases h.2 with ⟨e, _⟩ | ⟨g', cap, cur, e, _, hg, _, _, hs, ht⟩
  · cases e
  · injection e with e1 _ e3
    injection e1 with e1
    injection e1 with e1 _ _
    subst e1
    subst e3
    unfold BytN
    rw [hg]
    have h1 : cur.toList = (madeCells (Value.int .u8 0).cells (m * 1)).toList := by
      rw [← ht, List.take_of_length_le (by simp [hs])]
    have h2 : cur = ((List.replicate m (0 : UInt8)).map encB).toArray := by
      apply Array.toList_inj.1
      rw [h1]
      have h0 : (madeCells (Value.int .u8 0).cells (m * 1)).size = m := by simp [madeCells, Value.cells]
      apply List.ext_getElem
      · rw [Array.length_toList, h0]; simp
      · intro i h3 h4
        simp [madeCells, Value.cells, encB, Nat.mod_one]
    rw [h2]
def TextP (n : Nat) (e : Ending) : Prop := ∃ s : List UInt8, e = .returned (.string ⟨s.toArray⟩) ∧ s.length = n
set_option maxRecDepth 100000 in
set_option maxHeartbeats 4000000 in
theorem scalar_parts (r : Int) (A : Option Addr) (n c : Nat) (ms : List UInt8) (w : World) (hm : Byts w w.heap.size A n ms) (hn : n ≤ 10) :
    Calls Tryz.prog 97 #[.int .i64 r, .slice A n c] w fun e w' => TextP n e ∧ Below w.heap.size w w' := by
  obtain ⟨i0, hi0, hz0, hz1, hz2⟩ := info_parts zu8_info
  have Hm := Lib.hid hm
  clear hm
  go_enter Tryz.func97, Tryz.ntmps97
  go_wp2_with (at_make; refine wpList_make_full _ rfl (.tmp 8) (.tmp 8) 98 rfl w.heap.size 5 i0 (.int .u8 0) 1 Tryz.underlying98 hi0 hz0 hz1 .i64 .i64 (n : Int) (n : Int) n rfl rfl rfl rfl (by rw [hz2]; omega) (by simp only [maxLen]; omega) (Nat.le_refl _) ?_; intro w1 hown1 hgrow1)
  have hB := made_byt hown1
  have hb1 : Below w.heap.size w w1 := (Below.refl _ w).grown hgrow1 (Nat.le_refl _) (fun q hq => by cases hq)
  have HB := Lib.hid hB
  have Hb1 := Lib.hid hb1
  clear hown1 hgrow1 hB hb1
  go_upto_region 3 with fail
  go_loopw [0, 6] (fun r i wr => ∃ k : Nat, k ≤ n ∧ i = .int .i64 ((k : Int) - 1) ∧ (∃ z : Int, .int .i64 z = r) ∧ (∃ l : List UInt8, l.length = n ∧ BytN wr w.heap.size l) ∧ Below w.heap.size w wr) (fun _ i _ => (RowKit.intOf i + 1).toNat)
  case atStart => exact ⟨n, Nat.le_refl _, by go_num, ⟨r, rfl⟩, ⟨_, by simp, HB.out⟩, Hb1.out⟩
  case round =>
    obtain ⟨k, hk, rfl, ⟨z, rfl⟩, ⟨l, hl, hbn⟩, hb⟩ := hrel
    rcases k with _ | k
    · have hcv := hbn.str n
      rw [hl] at hcv
      have Hb := Lib.hid hb
      clear hbn hb
      go_wp2_with fail
      go_ret
      exact ⟨⟨l, rfl, hl⟩, Hb.out⟩
    · obtain ⟨mb, mo, rfl, hmb, hmc⟩ := Hm.out.at_ (by omega)
      have hml := Hm.out.len
      have y0 := (cellOf hb hmb).trans (hmc k (by omega))
      have c0 : wr.cell? ⟨w.heap.size, k, none⟩ = some (encB (l[k]'(by omega))) := by rw [cell_blk hbn]; simp [show k < l.length by omega]
      have s0 := frozen_blk hbn k
      unfold encB at c0
      generalize (ms[k]'(by omega)) = m at *
      generalize (l[k]'(by omega)) = lk at *
      have Hbn := Lib.hid hbn
      have Hb := Lib.hid hb
      clear hbn hb hmc
      go_wp2_with fail
      go_roundw
      case rel => exact ⟨k, by omega, by go_num, ⟨_, rfl⟩, (by obtain ⟨l', h1, h2⟩ := Hbn.out.store k _ _; exact ⟨l', h1.trans hl, h2⟩), Hb.out.setCell (Nat.le_refl _) _⟩
      case measure => simp [RowKit.intOf]
theorem lit_byts (w : World) (l : List UInt8) (cs : Array Value) (h : cs = (l.map encB).toArray) : Byts (w.alloc (.cells cs 5)) (w.alloc (.cells cs 5)).heap.size (some ⟨w.heap.size, 0, none⟩) l.length l := by
  refine ⟨rfl, fun _ => ⟨_, 0, rfl, by simp, fun j hj => ?_⟩⟩
  have e := cell_blk (heap_new (w := w) (o := .cells cs 5) rfl) j
  rw [Nat.zero_add]
  refine e.trans ?_
  subst h
  simp [hj, encB]
def EncP (e : Ending) : Prop := ∃ s : List UInt8, e = .returned (.tuple #[.string ⟨s.toArray⟩, .int .i64 0]) ∧ s.length ≤ 4
set_option maxRecDepth 100000 in
set_option maxHeartbeats 4000000 in
theorem scalar_Encode (r : Int) (w : World) (hr : scaR r = true) : Calls Tryz.prog 59 #[.int .i64 r] w fun e w' => EncP e ∧ Below w.heap.size w w' := by
  have k1 := scalar_Right r w
  rw [hr] at k1
  have K1 := Lib.hid k1
  have k2 := fun (W : World) => scalar_parts r (some ⟨W.heap.size, 0, none⟩) 2 2 [192, 128] (W.alloc (.cells #[.int .u8 192, .int .u8 128] 5)) (lit_byts W [192, 128] _ rfl) (by omega)
  have k3 := fun (W : World) => scalar_parts r (some ⟨W.heap.size, 0, none⟩) 3 3 [224, 128, 128] (W.alloc (.cells #[.int .u8 224, .int .u8 128, .int .u8 128] 5)) (lit_byts W [224, 128, 128] _ rfl) (by omega)
  have k4 := fun (W : World) => scalar_parts r (some ⟨W.heap.size, 0, none⟩) 4 4 [240, 128, 128, 128] (W.alloc (.cells #[.int .u8 240, .int .u8 128, .int .u8 128, .int .u8 128] 5)) (lit_byts W [240, 128, 128, 128] _ rfl) (by omega)
  have K2 := Lib.hid k2
  have K3 := Lib.hid k3
  have K4 := Lib.hid k4
  clear k1 k2 k3 k4
  unfold scaR at hr
  simp only [Bool.and_eq_true, decide_eq_true_eq] at hr
  have h0 : 0 ≤ r := by omega
  clear hr
  rcases hd1 : decide (r < 128) with _ | _
  rotate_left
  · have hlt := of_decide_eq_true hd1
    go_enter Tryz.func59, Tryz.ntmps59
    go_wp2_with fail
    refine K1.out.mono ?_
    rintro e w1 ⟨rfl, hb1⟩
    obtain ⟨q, hq⟩ : ∃ q : UInt8, r = (q.toNat : Int) := ⟨UInt8.ofNat r.toNat, by rw [UInt8.toNat_ofNat']; omega⟩
    have hB : BytN (w1.alloc (.cells #[.int .u8 (q.toNat : Int)] 5)) w1.heap.size [q] := heap_new rfl
    have hcv : (convert 98 9 (.slice (some ⟨w1.heap.size, 0, none⟩) 1 1)).run Tryz.prog (w1.alloc (.cells #[.int .u8 (q.toNat : Int)] 5)) = .ok (.string ⟨[q].toArray⟩) (w1.alloc (.cells #[.int .u8 (q.toNat : Int)] 5)) := hB.str 1
    have Hb := Lib.hid hb1
    rw [← hq] at hcv
    clear hb1 hB hq
    go_wp2_with fail
    go_ret2
    exact ⟨⟨[q], rfl, by simp⟩, Hb.out.alloc Hb.out.size _⟩
  · rcases hd2 : decide (r < 2048) with _ | _
    rotate_left
    · go_enter Tryz.func59, Tryz.ntmps59
      go_wp2_with fail
      refine K1.out.mono ?_
      rintro e w1 ⟨rfl, hb1⟩
      have H := Lib.hid (K2.out w1)
      have hb2 := hb1.alloc hb1.size (.cells #[.int .u8 192, .int .u8 128] 5)
      have Hb := Lib.hid hb2
      clear hb1 hb2
      go_wp2_with fail
      refine H.out.mono ?_
      rintro e w2 ⟨⟨s, rfl, hs⟩, hb⟩
      go_wp2_with fail
      go_ret2
      exact ⟨⟨s, rfl, by omega⟩, Hb.out.trans (hb.mono Hb.out.size)⟩
    · rcases hd3 : decide (r < 65536) with _ | _
      · go_enter Tryz.func59, Tryz.ntmps59
        go_wp2_with fail
        refine K1.out.mono ?_
        rintro e w1 ⟨rfl, hb1⟩
        have H := Lib.hid (K4.out w1)
        have hb2 := hb1.alloc hb1.size (.cells #[.int .u8 240, .int .u8 128, .int .u8 128, .int .u8 128] 5)
        have Hb := Lib.hid hb2
        clear hb1 hb2
        go_wp2_with fail
        refine H.out.mono ?_
        rintro e w2 ⟨⟨s, rfl, hs⟩, hb⟩
        go_wp2_with fail
        go_ret2
        exact ⟨⟨s, rfl, by omega⟩, Hb.out.trans (hb.mono Hb.out.size)⟩
      · go_enter Tryz.func59, Tryz.ntmps59
        go_wp2_with fail
        refine K1.out.mono ?_
        rintro e w1 ⟨rfl, hb1⟩
        have H := Lib.hid (K3.out w1)
        have hb2 := hb1.alloc hb1.size (.cells #[.int .u8 224, .int .u8 128, .int .u8 128] 5)
        have Hb := Lib.hid hb2
        clear hb1 hb2
        go_wp2_with fail
        refine H.out.mono ?_
        rintro e w2 ⟨⟨s, rfl, hs⟩, hb⟩
        go_wp2_with fail
        go_ret2
        exact ⟨⟨s, rfl, by omega⟩, Hb.out.trans (hb.mono Hb.out.size)⟩
end Go.Vir


namespace Go.Vir
open Go Go.RowKit Go.Proofs Go.Shelf
attribute [local go_sem] Oper.semAt_some

structure BdSt (w : World) (txt : List UInt8) (W : World) : Prop where
  bl : Below w.heap.size w W
  bd : Lib.IsBuilderF 100 5 w.heap.size w.heap.size (Lib.byteCells txt) W
theorem BdSt.below {w W W' : World} {txt : List UInt8} (h : BdSt w txt W) (hb : Below W.heap.size W W') : BdSt w txt W' := ⟨h.bl.trans (hb.mono h.bl.size), isBld_below h.bd hb⟩
theorem BdSt.write {w W : World} {txt : List UInt8} (h : BdSt w txt W) (l : List UInt8) (h1 : txt.length ≤ 100000) (h2 : l.length ≤ 1000) :
    Calls Tryz.prog 60 #[.pointer (some ⟨w.heap.size, 0, none⟩), .string ⟨l.toArray⟩] W fun e w' => (∃ n : Int, e = .returned (.tuple #[.int .i64 n, .nilIface])) ∧ BdSt w (txt ++ l) w' := by
  have hw := Tryz.Builder_WriteString_k w.heap.size w.heap.size _ ⟨l.toArray⟩ W h.bd (by rw [Lib.byteCells_length]; show _ + l.toArray.size ≤ _; simp; omega) h.bl.size
  refine hw.mono ?_
  rintro e w' ⟨rfl, hI, hb, _⟩
  refine ⟨⟨_, rfl⟩, h.bl.trans hb, ?_⟩
  rw [Lib.byteCells_append]
  exact Or.inr hI
set_option maxRecDepth 100000 in
set_option maxHeartbeats 4000000 in
theorem scalar_Text (A : Option Addr) (n c : Nat) (l : List Int) (w : World) (hx : Ints w w.heap.size A n l) (hn : n ≤ 1000) (hall : l.all scaR = true) :
    Calls Tryz.prog 31 #[.slice A n c] w fun e w' => (∃ s : ByteArray, e = .returned (.tuple #[.string s, .int .i64 0])) ∧ Below w.heap.size w w' := by
  have hP0 : BdSt w [] (w.alloc (.cells #[.pointer none, .slice none 0 0] 100)) := ⟨by go_grown, Lib.IsBuilderF.of (Lib.fresh_isBuilder 100 5 w)⟩
  have HP0 := Lib.hid hP0
  have Hx := Lib.hid hx
  have Hlen := Lib.hid hx.len
  have Hall := Lib.hid (List.all_eq_true.1 hall)
  clear hP0 hx hall
  go_enter Tryz.func31, Tryz.ntmps31
  go_upto_region 3 with fail
  go_loopw [11] (fun i wr => ∃ (k : Nat) (txt : List UInt8), k ≤ n ∧ i = .int .i64 (k : Int) ∧ txt.length ≤ 4 * k ∧ BdSt w txt wr) (fun i _ => n - (RowKit.intOf i).toNat)
  case atStart => exact ⟨0, [], Nat.zero_le _, rfl, by simp, HP0.out⟩
  case round =>
    obtain ⟨k, txt, hk, rfl, ht, hB⟩ := hrel
    rcases Nat.lt_or_ge k n with hkn | hge
    · obtain ⟨b, o, rfl, hlb, hc⟩ := Hx.out.at_ (by omega)
      have hkl : k < l.length := by rw [Hlen.out]; exact hkn
      have z := (cellOf hB.bl hlb).trans (hc k hkl)
      have K := Lib.hid (scalar_Encode l[k] wr (Hall.out _ (List.getElem_mem hkl)))
      generalize l[k] = x at *
      have HB := Lib.hid hB
      clear hc hB
      go_wp2_with fail
      refine K.out.mono ?_
      clear K
      rintro e w1 ⟨⟨s, rfl, hs⟩, hb1⟩
      have q := (HB.out.below hb1).write s (by omega) (by omega)
      have Q := Lib.hid q
      clear q hb1 z HB
      go_wp2_with fail
      refine Q.out.mono ?_
      clear Q
      rintro e w2 ⟨⟨m, rfl⟩, hB2⟩
      have HB2 := Lib.hid hB2
      clear hB2
      go_wp2_with fail
      go_roundw
      case rel => exact ⟨k + 1, txt ++ s, by omega, by go_num, by rw [List.length_append]; omega, HB2.out⟩
      case measure => simp [RowKit.intOf]; omega
    · have hst := Lib.hid (Tryz.Builder_String_any_k w.heap.size w.heap.size _ wr hB.bd hB.bl.size)
      have HB := Lib.hid hB
      clear hB
      go_wp2_with fail
      refine hst.out.mono ?_
      rintro e w7 ⟨rfl, _, hb7, _⟩
      go_wp2_with fail
      go_ret2
      exact ⟨⟨_, rfl⟩, HB.out.bl.trans hb7⟩
end Go.Vir


namespace Go.Vir
open Go Go.RowKit Go.Proofs Go.ChangeShapes Go.WideShapes Go.ChangeAt Go.Proofs.YtfbgcoeialdhhaaGreatDoor

theorem returns_shaped {H : Type} {enc : TypeId × Value → H} {a : Assume} {C : Checked} {os : Os} {f : FuncId} {fn : Func} {s : ChangeSpec} {conds : List PathCond} {apart fresh handsOn again : Bool} {X : World → Array Value → Prop}
    (hX : ∀ (w w' : World) (args : Array Value), w.heap = w'.heap → X w args → X w' args)
    (own : ownKnob C.prog.godebug = none) (started : os.Started) (noInit : C.prog.inits.idxOf? f = none) (hfn : C.prog.funcs[f]? = some fn)
    (witness : ∃ (w : World) (tape : Tape) (i : Input), w.os = os ∧ (w.forCall tape i).Shaped C.prog ∧ i.vars = [] ∧ Input.okWide C.prog (w.forCall tape i) .any w.heap.size f i ∧
      ((s.pre enc C.prog fn conds apart (w.forCall tape i).memory i.args ∧ X (w.forCall tape i).memory i.args) ∧ sizedMet enc C.prog fn (OpenSpec.ofChange s) apart (w.forCall tape i).memory i.args) ∧ a.holds C.prog (lone (Frame.enter C.prog f i.args .normal) [] (w.forCall tape i)))
    (contract : ∀ (W : World) (base : Nat) (args : Array Value) (ds gs : List (DataW H)) (before : List MemPlace),
      (∀ (j : Nat) t v, fn.params[j]? = some t → args[j]? = some v → Value.okWide C.prog W .any base t v) →
      DataW.Whole enc C.prog fn.params.toList s.vars apart W args.toList ds gs before →
      W.ShapedOpen C.prog → X W args →
      Calls C.prog f args W fun e W' => ∃ v, e = .returned v ∧ s.post enc C.prog fn apart fresh handsOn again W args v W') :
    ReturnsInHanded a C os f .any (fun w args => (s.pre enc C.prog fn conds apart w args ∧ X w args) ∧ sizedMet enc C.prog fn (OpenSpec.ofChange s) apart w args) (s.post enc C.prog fn apart fresh handsOn again) := by
  refine returnsInHanded_of_calls own started noInit witness ?_
  intro w tape i _ hsh _ hok hpre hholds
  obtain ⟨_, _, _, fn', hfn', _, _, _, _, hval⟩ := hok
  have e : fn' = fn := Option.some.inj (hfn'.symm.trans hfn)
  subst e
  obtain ⟨⟨⟨ds, gs, before, hw, hc⟩, hx⟩, hz⟩ := hpre
  have hw' := DataW.Whole.of_heap (w' := w.forCall tape i) (by rfl) hw
  refine (contract (w.forCall tape i) w.heap.size i.args ds gs before hval hw' hsh (hX _ _ _ (by rfl) hx)).mono fun e W' ⟨v, he, hp⟩ => ?_
  subst he
  exact ChangeSpec.post_blind hp

theorem own : ownKnob Tryz.prog.godebug = none := by kernel_rfl
theorem laidOut : laidOutB Tryz.prog = true := by kernel_rfl
theorem gErr : Tryz.prog.globalNamed "errors.errorType" = some 2 := by kernel_rfl
theorem rtypeOne : (Tryz.prog.cutTypes.find? (·.1 == "internal/reflectlite.rtype")).map (·.2) = some 211 := by kernel_rfl
theorem errorOne : ((List.range Tryz.prog.types.size).filter fun t => Tryz.prog.rowNamed t [101, 114, 114, 111, 114]) = [64] := by kernel_rfl
theorem errHandle : typeHandle Tryz.prog 64 = .pointer (some ⟨9, 64, none⟩) := by kernel_rfl
theorem star_err : "*" ++ "errors.errorString" = "*errors.errorString" := by decide
theorem rowErr (u : TypeId) (h : Tryz.prog.typeName? 3 u = some "*errors.errorString") : u = 350 :=
  typeName_ptr_named (nm := "errors.errorString") (by rw [star_err]; kernel_rfl) (by kernel_rfl) (by decide) u (by rw [star_err]; exact h)
theorem cellsEs : Tryz.prog.cellsOf 369 = 1 := by kernel_rfl
theorem cellsStr : Tryz.prog.cellsOf 9 = 1 := by kernel_rfl

theorem mlen_of_shaped {W : World} (h : W.ShapedOpen Tryz.prog) : ∃ m, W.cell? ⟨6, 0, none⟩ = some (.int .i64 m) :=
  cell_of_shapedOpen_int (t := 3) (zero := #[.int .i64 0]) h (by decide +kernel) (by kernel_rfl) rfl (by kernel_rfl) (by kernel_rfl) (by kernel_rfl)

theorem size_of_shaped {W : World} (h : W.ShapedOpen Tryz.prog) : 9 ≤ W.heap.size := by
  have h0 : (((begin Tryz.prog (fun _ _ => 0) default).world.heap[9 - 1]?).bind Obj.row?).isSome = true := by kernel_rfl
  obtain ⟨⟨z, t⟩, hz⟩ := Option.isSome_iff_exists.1 h0
  obtain ⟨cs, hh, _, _⟩ := h.1 (9 - 1) z t (by decide +kernel) hz
  have := (Array.getElem?_eq_some_iff.1 hh).1
  omega

noncomputable def world0 (os : Os) : World :=
  let w0 := World.holding Tryz.prog os ⟨#[], #[], []⟩
  { w0 with heap := w0.heap.modify 2 fun
      | .cells _ t frozen => .cells #[.iface 211 (.agg #[.pointer (some ⟨9, 64, none⟩)])] t frozen
      | o => o }
end Go.Vir


namespace Go.Vir
open Go Go.RowKit Go.Proofs Go.ChangeShapes Go.WideShapes Go.ChangeAt Go.Proofs.YtfbgcoeialdhhaaGreatDoor

theorem gPrf : Tryz.prog.globalNamed "virama/prop.errFile" = some 0 := by kernel_rfl
theorem tPrf : (Tryz.prog.globals[0]?).map (·.type) = some 64 := by kernel_rfl
end Go.Vir


namespace Go.Vir
open Go Go.RowKit Go.Proofs Go.ChangeShapes Go.WideShapes Go.ChangeAt

theorem list_of_each {α : Type} {Q : Nat → α → Prop} : ∀ (n : Nat), (∀ i, i < n → ∃ x, Q i x) → ∃ l : List α, l.length = n ∧ ∀ i (h : i < l.length), Q i l[i]
  | 0, _ => ⟨[], rfl, fun i h => absurd h (by simp)⟩
  | n + 1, h => by
    obtain ⟨l, hl, hq⟩ := list_of_each n (fun i hi => h i (by omega))
    obtain ⟨x, hx⟩ := h n (by omega)
    refine ⟨l ++ [x], by simp [hl], fun i hi => ?_⟩
    rcases Nat.lt_or_ge i n with h1 | h1
    · rw [List.getElem_append_left (by omega)]; exact hq i (by omega)
    · have : i = n := by simp [hl] at hi; omega
      subst this
      rw [List.getElem_append_right (by omega)]
      simpa [hl] using hx

theorem cells_two {W : World} {a : Addr} {cs : List Value} (h : W.cells? 0 a 2 = some cs) : ∃ x y, cs = [x, y] ∧ W.cell? a = some x ∧ W.cell? (a.add 1) = some y := by
  unfold World.cells? at h
  have e0 : a.add 0 = a := by simp [Addr.add]
  split at h
  · simp only [List.range_succ, List.range_zero, List.nil_append, List.cons_append, List.mapM_cons, List.mapM_nil, e0] at h
    cases h0 : W.cell? a with
    | none => simp [h0] at h
    | some x =>
      cases h1 : W.cell? (a.add 1) with
      | none => simp [h0, h1] at h
      | some y => simp [h0, h1] at h; exact ⟨x, y, h.symm, rfl, rfl⟩
  · cases h

theorem ints_opened {W : World} {a : Addr} {len cap : Nat} {zs : List Int} (hl : len ≤ cap) (hz : zs.length = cap)
    (hc : ∀ i, i < zs.length → W.cell? (a.add i) = some (.int .i64 (zs.getD i 0))) : Ints W W.heap.size (some a) len (zs.take len) := by
  have hlen : (zs.take len).length = len := by simp; omega
  refine ⟨hlen, fun h0 => ?_⟩
  obtain ⟨b, o, sp⟩ := a
  have h1 := hc 0 (by omega)
  have hsp : sp = none := by
    cases sp with
    | none => rfl
    | some x => 
      simp only [Addr.add, if_pos, World.cell?] at h1
      split at h1 <;> simp at h1
  subst hsp
  have hb : b < W.heap.size := by
    rcases Nat.lt_or_ge b W.heap.size with h | h
    · exact h
    · simp [World.cell?, Addr.add, Array.getElem?_eq_none h] at h1
  refine ⟨b, o, rfl, hb, fun j hj => ?_⟩
  have hj2 : j < zs.length := by omega
  have h2 := hc j hj2
  have e : (Addr.add ⟨b, o, none⟩ j) = ⟨b, o + j, none⟩ := by
    unfold Addr.add
    split <;> simp_all
  rw [e] at h2
  rw [h2]
  simp [List.getD, hj2]

end Go.Vir


namespace Go.Vir
open Go Go.RowKit Go.Proofs Go.ChangeShapes Go.WideShapes Go.ChangeAt Go.Proofs.YtfbgcoeialdhhaaGreatDoor

def laidT : List (String × DataW Unit) := [("unicode/utf8.acceptRanges", Rows.laid_unicode_utf8_acceptRanges), ("errors.errorType", Rows.laid_errors_errorType), ("virama/scalar.errScalar", Rows.laid_virama_scalar_errScalar), ("virama/scalar.errUtf", Rows.laid_virama_scalar_errUtf), ("virama/prop.errFile", Rows.laid_virama_prop_errFile), ("virama/trie.errTrie", Rows.laid_virama_trie_errTrie), ("virama/trie.errRange", Rows.laid_virama_trie_errRange), ("unicode/utf8.first", Rows.laid_unicode_utf8_first)]
def laidS : List (String × DataW Unit) := [("unicode/utf8.acceptRanges", Rows.laid_unicode_utf8_acceptRanges), ("virama/scalar.errScalar", Rows.laid_virama_scalar_errScalar), ("virama/scalar.errUtf", Rows.laid_virama_scalar_errUtf), ("virama/prop.errFile", Rows.laid_virama_prop_errFile), ("virama/trie.errTrie", Rows.laid_virama_trie_errTrie), ("virama/trie.errRange", Rows.laid_virama_trie_errRange), ("unicode/utf8.first", Rows.laid_unicode_utf8_first)]
theorem laidT_split : (laidT.filter fun x => x.2.handleName?.isNone) = laidS := by rfl
theorem laidT_hand : (laidT.filter fun x => x.2.handleName?.isSome) = [("errors.errorType", Rows.laid_errors_errorType)] := by rfl

set_option maxRecDepth 100000 in
set_option maxHeartbeats 2000000 in
theorem globT_of_laid {W : World} (hs : W.ShapedOpen Tryz.prog) (h : laidMetH Tryz.prog laidT W) : GlobP W := by
  unfold laidMetH at h
  rw [laidT_split, laidT_hand] at h
  obtain ⟨⟨ps, ⟨g0, t0, cs0, f0, p0, q0, hg0, ht0, hv0, hd0, ⟨g8, t8, cs8, f8, p8, q8, hg8, ht8, hv8, hd8, ⟨g9, t9, cs9, f9, p9, q9, hg9, ht9, hv9, hd9, ⟨g1, t1, cs1, f1, p1, q1, hg1, ht1, hv1, hd1, hrest, e1⟩, e9⟩, e8⟩, e0⟩, _, hrows⟩, hh⟩ := h
  obtain rfl := Option.some.inj (gPrf.symm.trans hg1)
  obtain rfl := Option.some.inj (tPrf.symm.trans ht1)
  obtain ⟨name, u, ty, n1, n2, n3, n4, n5⟩ := hh _ (List.mem_singleton.2 rfl)
  have en : name = [101, 114, 114, 111, 114] := (Option.some.inj n1).symm
  subst en
  obtain rfl := Option.some.inj (rtypeOne.symm.trans n2)
  have hm : ty ∈ (List.range Tryz.prog.types.size).filter fun t => Tryz.prog.rowNamed t [101, 114, 114, 111, 114] := List.mem_filter.2 ⟨List.mem_range.2 n3, n4⟩
  rw [errorOne] at hm
  obtain rfl := List.mem_singleton.1 hm
  rw [errHandle] at n5
  obtain ⟨l1⟩ := cs1
  subst e1
  subst e9
  subst e8
  subst e0
  have ok1 : ∀ u v, l1 = [.iface u v] → Value.okWide Tryz.prog W .any 0 u v := fun u v e => by
    subst e
    exact (hrows 0 0 (by simp [MemPlace.row])).2 u v (by simpa using World.var?_cell hg1 hv1 0)
  obtain ⟨a1, s1, rfl, _, _, _, rfl⟩ := errorString_of_trod Tryz.underlying64 rowErr Tryz.underlying350 Tryz.underlying369 rfl rfl Tryz.underlying9 cellsEs cellsStr hd1 ok1
  have hsz := size_of_shaped hs
  exact ⟨⟨mlen_of_shaped hs, Nat.lt_of_lt_of_le (by decide) hsz, by simpa using World.var?_cell gErr n5 0, Nat.lt_of_lt_of_le (by decide) hsz⟩, ⟨_, by simpa using World.var?_cell gPrf hv1 0⟩, Nat.lt_of_lt_of_le (by decide) hsz⟩

noncomputable def worldT (os : Os) : World := (world0 os).layVars Tryz.prog laidS
theorem worldT_os (os : Os) : (worldT os).os = os := World.layVars_os _ _ _
theorem worldT_metS (os : Os) (args : Array Value) : laidMet Tryz.prog laidS ((worldT os).forCall (fun _ _ => 0) ⟨#[], args, []⟩).memory := by
  have h : laidMet Tryz.prog laidS (worldT os) := laidMet_layVars (w0 := world0 os) (laidS.map (·.1)) [] (by rfl) (by kernel_rfl) (by kernel_rfl) LaidIn.none
  exact h.of_heap (by simp [World.memory, World.forCall, Input.heap])
theorem worldT_met (os : Os) (args : Array Value) : laidMetH Tryz.prog laidT ((worldT os).forCall (fun _ _ => 0) ⟨#[], args, []⟩).memory :=
  laidMetH_of_parts (by rw [laidT_split]; exact worldT_metS os args) (by kernel_rfl)
theorem worldT_shaped (os : Os) : (worldT os).Shaped Tryz.prog := World.shaped_of_ZipB (by kernel_rfl) (by kernel_rfl)
end Go.Vir


namespace Go.Vir
open Go Go.RowKit Go.Proofs Go.ChangeShapes Go.WideShapes Go.ChangeAt Go.Joins

theorem cells_one {W : World} {a : Addr} {cs : List Value} (h : W.cells? 0 a 1 = some cs) : ∃ x, cs = [x] ∧ W.cell? a = some x := by
  unfold World.cells? at h
  have e0 : a.add 0 = a := by simp [Addr.add]
  split at h
  · simp only [List.range_succ, List.range_zero, List.nil_append, List.mapM_cons, List.mapM_nil, e0] at h
    rcases h0 : W.cell? a with _ | x0
    · simp [h0] at h
    · simp [h0] at h
      exact ⟨x0, h.symm, rfl⟩
  · cases h
set_option maxRecDepth 100000 in
theorem ints_cell {H : Type} {enc : TypeId × Value → H} {W : World} {x : Value} {fuel : Nat} {y : DataW H × List MemPlace} (h : DataW.trod enc Tryz.prog W 0 (fun _ => true) true fuel 24 [x] = some y) :
    ∃ A n c l, x = .slice A n c ∧ n ≤ c ∧ n ≤ 9223372036854775807 ∧ Ints W W.heap.size A n l := by
  obtain ⟨d, p⟩ := y
  rcases open_ints Tryz.underlying24 Tryz.underlying3 (by kernel_rfl) h with ⟨hcs, hx⟩ | ⟨a, len', cap', zs, hcs, _, hl, hmx, hz, hx, hcell, _⟩
  · obtain rfl : x = .slice none 0 0 := by simpa using hcs
    exact ⟨_, _, _, [], rfl, Nat.le_refl _, by omega, Ints.nil _ _ _⟩
  · obtain rfl : x = .slice (some a) len' cap' := by simpa using hcs
    unfold maxLen at hmx
    exact ⟨_, _, _, _, rfl, hl, by omega, ints_opened hl (by simpa using hz) hcell⟩
set_option maxRecDepth 100000 in
theorem trie_cells {H : Type} {enc : TypeId × Value → H} {W : World} {x0 x1 : Value} {fuel : Nat} {y : DataW H × List MemPlace} (hf : DataW.trod enc Tryz.prog W 0 (fun _ => true) true fuel 27 [x0, x1] = some y) :
    ∃ Ai ni ci Ab nb cb T, x0 = .slice Ai ni ci ∧ x1 = .slice Ab nb cb ∧ ni ≤ ci ∧ ni ≤ 9223372036854775807 ∧ nb ≤ 9223372036854775807 ∧ (∀ b ∈ T.bl, b.length ≤ 9223372036854775807) ∧ Tri W W.heap.size Ai ni Ab nb T := by
  have ci1 : Tryz.prog.cellsOf 24 = 1 := by kernel_rfl
  have cii : Tryz.prog.cellsOf 25 = 1 := by kernel_rfl
  obtain ⟨z0, z1, n2, _, _, k0, k1⟩ := trod_struct2 Tryz.underlying27 hf
  have k0' : DataW.trod enc Tryz.prog W 0 (fun _ => true) true n2 24 [x0] = some z0 := by
    have := k0
    simp only [ci1] at this
    exact this
  have k1' : DataW.trod enc Tryz.prog W 0 (fun _ => true) true n2 25 [x1] = some z1 := by
    have := k1
    simp only [cii] at this
    exact this
  obtain ⟨Ai, ni, ci, l, rfl, hic, hni, hI⟩ := ints_cell k0'
  rcases DataW.trod_slice Tryz.underlying25 k1' with ⟨e1, _⟩ | ⟨a, len, cap, elems, rest, n', _, e1, _, _, hlc, hmx, hlen, hel, _, _⟩
  · obtain rfl : x1 = .slice none 0 0 := by simpa using e1
    exact ⟨Ai, ni, ci, none, 0, 0, { ix := l, bl := [] }, rfl, rfl, hic, hni, by omega, by simp, hI, Intss.nil _ _ _⟩
  · obtain rfl : x1 = .slice (some a) len cap := by simpa using e1
    have each : ∀ i, i < len → ∃ b : List Int, ∃ A' n' c', W.cell? (a.add i) = some (.slice A' n' c') ∧ n' ≤ c' ∧ b.length ≤ 9223372036854775807 ∧ Ints W W.heap.size A' n' b := by
      intro i hi
      have h2 := hel i hi
      rw [ci1, Nat.mul_one, List.getElem?_eq_getElem (by omega)] at h2
      obtain ⟨cs2, hc2, h3⟩ := Option.bind_eq_some_iff.1 h2
      obtain ⟨x, rfl, hx⟩ := cells_one hc2
      obtain ⟨A', m, c', b, rfl, q1, q2, q3⟩ := ints_cell h3
      exact ⟨b, A', m, c', hx, q1, by rw [q3.len]; exact q2, q3⟩
    obtain ⟨bs, hbl, hbs⟩ := list_of_each len each
    unfold maxLen at hmx
    refine ⟨Ai, ni, ci, some a, len, cap, { ix := l, bl := bs }, rfl, rfl, hic, hni, by omega, fun b hb => ?_, hI, hbl, fun hpos => ?_⟩
    · obtain ⟨i, hi, rfl⟩ := List.getElem_of_mem hb
      obtain ⟨_, _, _, _, _, q, _⟩ := hbs i hi
      exact q
    · obtain ⟨b, o, sp⟩ := a
      obtain ⟨A', m, c', hsp, _⟩ := hbs 0 (by omega)
      have hs2 : sp = none := by
        cases sp with
        | none => rfl
        | some q =>
          simp only [Addr.add, if_pos, World.cell?] at hsp
          split at hsp <;> simp at hsp
      subst hs2
      have hb : b < W.heap.size := by
        rcases Nat.lt_or_ge b W.heap.size with hh | hh
        · exact hh
        · simp [World.cell?, Addr.add, Array.getElem?_eq_none hh] at hsp
      refine ⟨b, o, rfl, hb, fun j hj => ?_⟩
      have hadd : ∀ o k, (Addr.add ⟨b, o, none⟩ k) = ⟨b, o + k, none⟩ := fun o k => by
        unfold Addr.add
        split <;> simp_all
      obtain ⟨A', m, c', k0, k1, _, k3⟩ := hbs j hj
      rw [hadd] at k0
      exact ⟨A', m, c', k0, k3, k1⟩
set_option maxRecDepth 100000 in
theorem mps_cell {H : Type} {enc : TypeId × Value → H} {W : World} {x : Value} {fuel : Nat} {y : DataW H × List MemPlace} (h : DataW.trod enc Tryz.prog W 0 (fun _ => true) true fuel 23 [x] = some y) :
    ∃ A n c l, x = .slice A n c ∧ n ≤ 9223372036854775807 ∧ (∀ z ∈ l, z.ts.length ≤ 9223372036854775807) ∧ Mps W W.heap.size A n l := by
  have c2 : Tryz.prog.cellsOf 39 = 2 := by kernel_rfl
  have ci1 : Tryz.prog.cellsOf 3 = 1 := by kernel_rfl
  have cii : Tryz.prog.cellsOf 24 = 1 := by kernel_rfl
  rcases DataW.trod_slice Tryz.underlying23 h with ⟨e1, _⟩ | ⟨a, len, cap, elems, rest, n', _, e1, _, _, hlc, hmx, hlen, hel, _, _⟩
  · obtain rfl : x = .slice none 0 0 := by simpa using e1
    exact ⟨none, 0, 0, [], rfl, by omega, by simp, Mps.nil _ _ _⟩
  · obtain rfl : x = .slice (some a) len cap := by simpa using e1
    have each : ∀ i, i < len → ∃ z : MpV, ∃ A' n' c', W.cell? (a.add (i * 2)) = some (.int .i64 z.f) ∧ W.cell? ((a.add (i * 2)).add 1) = some (.slice A' n' c') ∧ n' ≤ c' ∧ z.ts.length ≤ 9223372036854775807 ∧ Ints W W.heap.size A' n' z.ts := by
      intro i hi
      have h2 := hel i hi
      rw [c2, List.getElem?_eq_getElem (by omega)] at h2
      obtain ⟨cs2, hc2, h3⟩ := Option.bind_eq_some_iff.1 h2
      obtain ⟨x0, x1, rfl, hx0, hx1⟩ := cells_two hc2
      obtain ⟨z0, z1, n2, _, _, k0, k1⟩ := trod_struct2 Tryz.underlying39 h3
      have k0' : DataW.trod enc Tryz.prog W 0 (fun _ => true) true n2 3 [x0] = some z0 := by
        have := k0
        simp only [ci1] at this
        exact this
      have k1' : DataW.trod enc Tryz.prog W 0 (fun _ => true) true n2 24 [x1] = some z1 := by
        have := k1
        simp only [cii] at this
        exact this
      obtain ⟨f, e0, _⟩ := DataW.trod_int Tryz.underlying3 k0'
      obtain rfl : x0 = .int .i64 f := by simpa using e0
      obtain ⟨A', m, c', b, rfl, q1, q2, q3⟩ := ints_cell k1'
      exact ⟨{ f := f, ts := b }, A', m, c', hx0, hx1, q1, by rw [q3.len]; exact q2, q3⟩
    obtain ⟨bs, hbl, hbs⟩ := list_of_each len each
    unfold maxLen at hmx
    refine ⟨some a, len, cap, bs, rfl, by omega, fun b hb => ?_, hbl, fun hpos => ?_⟩
    · obtain ⟨i, hi, rfl⟩ := List.getElem_of_mem hb
      obtain ⟨_, _, _, _, _, _, q, _⟩ := hbs i hi
      exact q
    · obtain ⟨b, o, sp⟩ := a
      obtain ⟨A', m, c', hsp, _⟩ := hbs 0 (by omega)
      have hs2 : sp = none := by
        cases sp with
        | none => rfl
        | some q =>
          simp only [Addr.add, if_pos, World.cell?] at hsp
          split at hsp <;> simp at hsp
      subst hs2
      have hb : b < W.heap.size := by
        rcases Nat.lt_or_ge b W.heap.size with hh | hh
        · exact hh
        · simp [World.cell?, Addr.add, Array.getElem?_eq_none hh] at hsp
      refine ⟨b, o, rfl, hb, fun j hj => ?_⟩
      have hadd : ∀ o k, (Addr.add ⟨b, o, none⟩ k) = ⟨b, o + k, none⟩ := fun o k => by
        unfold Addr.add
        split <;> simp_all
      obtain ⟨A', m, c', k0, k1, k2, _, k3⟩ := hbs j hj
      rw [hadd] at k0 k1
      rw [hadd] at k1
      exact ⟨A', m, c', k0, k1, k3, k2⟩
set_option maxRecDepth 100000 in
theorem open_cases {H : Type} {enc : TypeId × Value → H} {W : World} {base : Nat} {v : Value} {d : DataW H} {p : List MemPlace}
    (hval : Value.okWide Tryz.prog W .any base 29 v) (h : DataW.Trod enc Tryz.prog W 0 (fun _ => true) true 29 v d p) :
    ∃ a c, v = a.val ∧ CasW W W.heap.size a c ∧ CasS a c := by
  unfold Value.okWide at hval
  simp only [Tryz.underlying29] at hval
  obtain ⟨cs, rfl, hsz, _⟩ := hval
  obtain ⟨fuel, hf⟩ := h
  obtain ⟨y0, y1, y2, y3, n, hx, hl, h0, h1, h2, h3⟩ := trod_struct4 Tryz.underlying29 hf
  have c6 : Tryz.prog.cellsOf 29 = 6 := by kernel_rfl
  have c2 : Tryz.prog.cellsOf 27 = 2 := by kernel_rfl
  have cm1 : Tryz.prog.cellsOf 23 = 1 := by kernel_rfl
  rw [c6] at hsz
  have hcs : cs = #[cs[0], cs[1], cs[2], cs[3], cs[4], cs[5]] := by
    apply Array.ext
    · simpa using hsz
    · intro i h1 h2
      match i, h2 with
      | 0, _ => rfl
      | 1, _ => rfl
      | 2, _ => rfl
      | 3, _ => rfl
      | 4, _ => rfl
      | 5, _ => rfl
  generalize cs[0] = x0 at hcs
  generalize cs[1] = x1 at hcs
  generalize cs[2] = x2 at hcs
  generalize cs[3] = x3 at hcs
  generalize cs[4] = x4 at hcs
  generalize cs[5] = x5 at hcs
  subst hcs
  clear hsz hl hf hx
  have h0' : DataW.trod enc Tryz.prog W 0 (fun _ => true) true n 23 [x0] = some y0 := by
    have := h0
    simp only [Value.cells, cm1] at this
    exact this
  have h1' : DataW.trod enc Tryz.prog W 0 (fun _ => true) true n 23 [x1] = some y1 := by
    have := h1
    simp only [Value.cells, cm1] at this
    exact this
  have h2' : DataW.trod enc Tryz.prog W 0 (fun _ => true) true n 27 [x2, x3] = some y2 := by
    have := h2
    simp only [Value.cells, c2] at this
    exact this
  have h3' : DataW.trod enc Tryz.prog W 0 (fun _ => true) true n 27 [x4, x5] = some y3 := by
    have := h3
    simp only [Value.cells, c2] at this
    exact this
  obtain ⟨Al, nl, cl, lo, rfl, a1, a2, a3⟩ := mps_cell h0'
  obtain ⟨At, nt, ct, ti, rfl, b1, b2, b3⟩ := mps_cell h1'
  obtain ⟨Ci, ni, ci, Cb, nb, cb, ca, rfl, rfl, p1, p2, p3, p4, p5⟩ := trie_cells h2'
  obtain ⟨Ii, mi, di, Ib, mb, db, ig, rfl, rfl, q1, q2, q3, q4, q5⟩ := trie_cells h3'
  exact ⟨⟨Al, nl, cl, At, nt, ct, Ci, ni, ci, Cb, nb, cb, Ii, mi, di, Ib, mb, db⟩, { lo := lo, ti := ti, ca := ca, ig := ig }, rfl, ⟨a3, b3, p5, q5⟩, ⟨a1, b1, p2, p3, q2, q3, p1, q1, a2, b2, p4, q4⟩⟩
end Go.Vir


namespace Go.Vir
open Go Go.RowKit Go.ChangeShapes
section
variable {H : Type} {enc : TypeId × Value → H} {P : Program} {w : World} {base : Nat} {spare : Nat → Bool} {held : Bool}
end
theorem and_mk {a b : Bool} (h1 : a = true) (h2 : b = true) : (a && b) = true := by rw [h1, h2]; rfl
end Go.Vir

