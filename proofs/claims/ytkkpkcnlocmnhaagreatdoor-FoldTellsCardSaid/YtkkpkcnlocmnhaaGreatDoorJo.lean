/- Joined texts: TbA, FpB, FpC. -/
import Derived.Test.YtkkpkcnlocmnhaaGreatDoorJn
import Derived.Test.YtkkpkcnlocmnhaaGreatDoorJb
import Derived.Test.YtkkpkcnlocmnhaaGreatDoorJl
import Derived.Test.YtkkpkcnlocmnhaaGreatDoorJd
import Derived.Test.YtkkpkcnlocmnhaaGreatDoorJm
import Derived.Deep.RegionHeld3
namespace Go.Vir
open Go Go.RowKit Go.Proofs
attribute [local go_sem] Oper.semAt_some

def SlV (w : World) (B : Nat) (bls : List (List Int)) (xs : List Value) : Prop :=
  xs.length = bls.length ∧ ∀ (j : Nat) (h : j < bls.length), ∃ A' n' c', xs[j]? = some (.slice A' n' c') ∧ n' ≤ c' ∧ Ints w B A' n' bls[j]
theorem SlV.nil {w : World} {B : Nat} : SlV w B [] [] := ⟨rfl, fun j h => absurd h (by simp)⟩
theorem SlV.snoc {w : World} {B : Nat} {bls : List (List Int)} {xs : List Value} {x : List Int} {A' : Option Addr} {n' c' : Nat} (h : SlV w B bls xs) (hc : n' ≤ c') (hi : Ints w B A' n' x) : SlV w B (bls ++ [x]) (xs ++ [.slice A' n' c']) := by
  refine ⟨by simp [h.1], fun j hj => ?_⟩
  rw [List.length_append, List.length_singleton] at hj
  rcases Nat.lt_or_ge j bls.length with h1 | h1
  · rw [List.getElem?_append_left (by rw [h.1]; exact h1), List.getElem_append_left h1]
    exact h.2 j h1
  · obtain rfl : j = bls.length := by omega
    rw [List.getElem?_append_right (by rw [h.1]; exact Nat.le_refl _), h.1, List.getElem_append_right (Nat.le_refl _)]
    simp only [Nat.sub_self, List.getElem_cons_zero, List.getElem?_cons_zero]
    exact ⟨A', n', c', rfl, hc, hi⟩
theorem SlV.below {w w' : World} {B : Nat} {bls : List (List Int)} {xs : List Value} (h : SlV w B bls xs) (hb : Below B w w') : SlV w' B bls xs :=
  ⟨h.1, fun j hj => by obtain ⟨A', n', c', a, b, c⟩ := h.2 j hj; exact ⟨A', n', c', a, b, c.below hb⟩⟩
theorem Ints.front {w : World} {B n : Nat} {A : Option Addr} {l : List Int} (h : Ints w B A n l) (m : Nat) : Ints w B A (min n m) (l.take m) := by
  have hl := h.len
  refine ⟨by rw [List.length_take]; omega, fun hn => ?_⟩
  obtain ⟨b, o, e, hb, hc⟩ := h.at_ (by omega)
  refine ⟨b, o, e, hb, fun j hj => ?_⟩
  rw [List.length_take] at hj
  rw [List.getElem_take]
  exact hc j (by omega)

structure TriF (W : World) (B F : Nat) (Ai : Option Addr) (ni : Nat) (Ab : Option Addr) (nb : Nat) (T : TrV) : Prop where
  ix : Ints W B Ai ni T.ix
  len : T.bl.length = nb
  bl : 0 < nb → ∃ g, Ab = some ⟨g, 0, none⟩ ∧ F ≤ g ∧ g < W.heap.size ∧ ∀ (j : Nat) (h : j < T.bl.length), ∃ A' n' c', W.cell? ⟨g, j, none⟩ = some (.slice A' n' c') ∧ Ints W B A' n' T.bl[j] ∧ n' ≤ c'
theorem TriF.tri {W : World} {B F : Nat} {Ai : Option Addr} {ni : Nat} {Ab : Option Addr} {nb : Nat} {T : TrV} (h : TriF W B F Ai ni Ab nb T) (hB : B ≤ W.heap.size) : Tri W W.heap.size Ai ni Ab nb T := by
  refine ⟨h.ix.more hB, h.len, fun hn => ?_⟩
  obtain ⟨g, e, _, hg, hc⟩ := h.bl hn
  refine ⟨g, 0, e, hg, fun j hj => ?_⟩
  obtain ⟨A', n', c', a, b, c⟩ := hc j hj
  exact ⟨A', n', c', by rw [Nat.zero_add]; exact a, b.more hB, c⟩
theorem TriF.keep {W W' : World} {B F : Nat} {Ai : Option Addr} {ni : Nat} {Ab : Option Addr} {nb : Nat} {T : TrV} (h : TriF W B F Ai ni Ab nb T) (hs : W.heap.size ≤ W'.heap.size) (h1 : ∀ k, k < B → W'.heap[k]? = W.heap[k]?) (h2 : ∀ k, F ≤ k → k < W.heap.size → W'.heap[k]? = W.heap[k]?) : TriF W' B F Ai ni Ab nb T := by
  refine ⟨h.ix.lowB h1, h.len, fun hn => ?_⟩
  obtain ⟨g, e, hF, hg, hc⟩ := h.bl hn
  refine ⟨g, e, hF, by omega, fun j hj => ?_⟩
  obtain ⟨A', n', c', a, b, c⟩ := hc j hj
  exact ⟨A', n', c', (World.cell?_of_block (a := ⟨g, j, none⟩) (h2 g hF hg)).trans a, b.lowB h1, c⟩
theorem TriF.wider {W : World} {B F F' : Nat} {Ai : Option Addr} {ni : Nat} {Ab : Option Addr} {nb : Nat} {T : TrV} (h : TriF W B F Ai ni Ab nb T) (hF : F' ≤ F) : TriF W B F' Ai ni Ab nb T :=
  ⟨h.ix, h.len, fun hn => by obtain ⟨g, e, h1, h2, hc⟩ := h.bl hn; exact ⟨g, e, by omega, h2, hc⟩⟩
theorem triF_own {W : World} {B F : Nat} {Ai : Option Addr} {ni : Nat} {Vb : Value} {xs : List Value} {T : TrV} (hi : Ints W B Ai ni T.ix) (hr : W.ownsRow F 24 1 Vb T.bl.length xs) (hv : SlV W B T.bl xs) : ∃ Ab cb, Vb = .slice Ab T.bl.length cb ∧ T.bl.length ≤ cb ∧ TriF W B F Ai ni Ab T.bl.length T := by
  rcases hr.2 with ⟨rfl, h0⟩ | ⟨g, cap, cur, rfl, hb, hg, hc, _, _, ht⟩
  · exact ⟨none, 0, by rw [h0], by omega, hi, rfl, fun hn => absurd hn (by omega)⟩
  · refine ⟨_, _, rfl, hc, hi, rfl, fun _ => ⟨g, rfl, hb, (Array.getElem?_eq_some_iff.1 hg).1, fun j hj => ?_⟩⟩
    obtain ⟨A', n', c', e, hc', hi'⟩ := hv.2 j hj
    refine ⟨_, _, c', ?_, hi', hc'⟩
    rw [cell_blk hg]
    rw [← ht, List.getElem?_take] at e
    split at e
    · simpa using e
    · cases e
theorem trie_stored {w V : World} {b : Nat} {u0 v0 : Value} (u v : Value) (h : V.heap[b]? = some (.cells #[u0, v0] 27 (0, 0))) (hb : Below w.heap.size w V) (hw : w.heap.size ≤ b) :
    ((V.setCell ⟨b, 0, none⟩ u).setCell ⟨b, 1, none⟩ v).heap[b]? = some (.cells #[u, v] 27 (0, 0)) ∧ Below w.heap.size w ((V.setCell ⟨b, 0, none⟩ u).setCell ⟨b, 1, none⟩ v) ∧
      (∀ k, k ≠ b → ((V.setCell ⟨b, 0, none⟩ u).setCell ⟨b, 1, none⟩ v).heap[k]? = V.heap[k]?) ∧ ((V.setCell ⟨b, 0, none⟩ u).setCell ⟨b, 1, none⟩ v).heap.size = V.heap.size := by
  refine ⟨by simp [World.setCell, Array.getElem?_modify, h], (hb.setCell (p := ⟨b, 0, none⟩) hw u).setCell (p := ⟨b, 1, none⟩) hw v, fun k hk => ?_, by simp [World.setCell]⟩
  simp [World.setCell, Array.getElem?_modify, Ne.symm hk]
def TabI (w : World) (B : Nat) (Ai : Option Addr) (ni ci : Nat) (Ab : Option Addr) (nb cb : Nat) (T : TrV) (k : Nat) (W : World) : Prop :=
  ∃ (v : Value) (xs : List Value), W.heap[w.heap.size + 2]? = some (.cells #[.slice Ai (min ni 4360) ci, v] 27 (0, 0)) ∧ W.ownsRow (w.heap.size + 3) 24 1 v k xs ∧ SlV w B (cutB (T.bl.take k)) xs ∧
    W.heap[w.heap.size]? = some (.cells #[.slice Ai ni ci, .slice Ab nb cb] 27 (0, 0)) ∧ W.heap[w.heap.size + 1]? = some (.cells #[.slice none 0 0, .slice none 0 0] 27 (0, 0)) ∧ Below w.heap.size w W ∧ w.heap.size + 3 ≤ W.heap.size

set_option maxRecDepth 100000 in
set_option maxHeartbeats 4000000 in
theorem law06_Table (B : Nat) (Ai : Option Addr) (ni ci : Nat) (Ab : Option Addr) (nb cb : Nat) (T : TrV) (w : World) (hT : Tri w B Ai ni Ab nb T) (hB : B ≤ w.heap.size) (hic : ni ≤ ci) (hnb : nb ≤ 9223372036854775807) (hni : ni ≤ 9223372036854775807) (hbs : ∀ b ∈ T.bl, b.length ≤ 9223372036854775807) :
    Calls Tryz.prog 33 #[.agg #[.slice Ai ni ci, .slice Ab nb cb]] w fun e w' => (∃ ni' Ab' nb' cb', e = .returned (.agg #[.slice Ai ni' ci, .slice Ab' nb' cb']) ∧ ni' ≤ ci ∧ nb' ≤ cb' ∧ ni' ≤ 4360 ∧ nb' ≤ 30 ∧ TriF w' B w.heap.size Ai ni' Ab' nb' (cutT T)) ∧ Below w.heap.size w w' := by
  obtain ⟨i0, hi0, hz0, hz1, hz2⟩ := info_parts ints_info
  have Hix := Lib.hid hT.ix
  have Hlen := Lib.hid hT.bl.len
  have Hbl := Lib.hid hT.bl
  have Hbs := Lib.hid hbs
  have hm1 : ((min (ni : Int) 4360)).toNat = min ni 4360 := by omega
  have hm2 : min (ni : Int) 4360 ≤ (ci : Int) := by omega
  have hm3 : 0 ≤ min (ni : Int) 4360 := by omega
  have hm4 : min ni 4360 ≤ ci := by omega
  clear hT hbs
  go_enter Tryz.func33, Tryz.ntmps33
  go_upto_region 3 with fail
  rw [show w.heap.size + 1 + 1 = w.heap.size + 2 from rfl]
  obtain ⟨W0, hW0⟩ : ∃ W0, W0 = (((w.alloc (.cells #[.slice Ai ni ci, .slice Ab nb cb] 27)).alloc (.cells #[.slice none 0 0, .slice none 0 0] 27)).alloc (.cells #[.slice Ai (min ni 4360) ci, .slice none 0 0] 27)) := ⟨_, rfl⟩
  have hb0 : Below w.heap.size w W0 := by rw [hW0]; go_grown
  have hs0 : W0.heap.size = w.heap.size + 3 := by rw [hW0]; simp
  have hI0 : TabI w B Ai ni ci Ab nb cb T 0 W0 := ⟨.slice none 0 0, [], (by rw [hW0]; simp (disch := (first | omega | (simp only [World.size_alloc]; done) | (simp only [World.size_alloc]; omega))) only [heap_laws]), World.ownsRow_nil _ _ _ _, SlV.nil, (by rw [hW0]; simp (disch := (first | omega | (simp only [World.size_alloc]; done) | (simp only [World.size_alloc]; omega))) only [heap_laws]), (by rw [hW0]; simp (disch := (first | omega | (simp only [World.size_alloc]; done) | (simp only [World.size_alloc]; omega))) only [heap_laws]), hb0, by omega⟩
  rw [← hW0]
  clear hW0 hm1 hm2 hm3
  go_loopw [4] (fun i wr => ∃ k : Nat, k ≤ nb ∧ k ≤ 30 ∧ i = .int .i64 (k : Int) ∧ TabI w B Ai ni ci Ab nb cb T k wr) (fun i _ => 30 - (RowKit.intOf i).toNat)
  case atStart => exact ⟨0, Nat.zero_le _, Nat.zero_le _, rfl, hI0⟩
  case round =>
    obtain ⟨k, hk, hk30, rfl, hI⟩ := hrel
    obtain ⟨v, xs, hzb, hown, hsl, hx1, hr1, hb, hF⟩ := hI
    by_cases hlt : k < nb ∧ k < 30
    · obtain ⟨h1, h2⟩ := hlt
      obtain ⟨bb, bo, rfl, hbb, hbc⟩ := Hbl.out.at_ (by omega)
      have hkl : k < T.bl.length := by rw [Hlen.out]; exact h1
      obtain ⟨A1, n1, cc1, hc0, hi1, hnc1⟩ := hbc k hkl
      have hbk := Hbs.out _ (List.getElem_mem hkl)
      have hl1 := hi1.len
      have hsucc := cutB_succ hkl h2
      have hsl2 := hsl.snoc (c' := cc1) (by omega) (hi1.front 260)
      rw [← hsucc] at hsl2
      have hn1 : n1 ≤ 9223372036854775807 := by omega
      clear hsucc hbk hl1 hi1 hbc hsl
      have x0 := cell_blk hx1 0
      have x1 := cell_blk hx1 1
      have y1 := (cellOf hb (show bb < w.heap.size by omega)).trans hc0
      have q1 := cell_blk hzb 1
      have Hsl2 := Lib.hid hsl2
      clear hsl2 hc0
      go_upto_region 5 with fail
      have hgbl : ∀ (V5 : World), (wr.drew.alloc (.cells #[.slice A1 (min n1 260) cc1] 24)).grownBy V5 v.ownBlock → ∀ m, m < w.heap.size + 3 → V5.heap[m]? = (wr.drew.alloc (.cells #[.slice A1 (min n1 260) cc1] 24)).heap[m]? := fun V5 hg m hm => by
        refine hg.block m (by simp; omega) (fun e => ?_)
        have := (row_data hown m e.symm).1
        omega
      have Hgb := Lib.hid hgbl
      have hown1 := hown.drew.alloc (.cells #[.slice A1 (min n1 260) cc1] 24)
      have hcs : ∀ (j : Nat) (u : Value), [Value.slice A1 (min n1 260) cc1][j]? = some u → (wr.drew.alloc (.cells #[.slice A1 (min n1 260) cc1] 24)).cell? ((⟨wr.drew.heap.size, 0, none⟩ : Addr).add j) = some u := cell_one_new wr.drew _ _
      have hbs : w.heap.size + 3 ≤ (wr.drew.alloc (.cells #[.slice A1 (min n1 260) cc1] 24)).heap.size := by simp; omega
      have Hcs := Lib.hid hcs
      have Hown := Lib.hid hown.drew
      have Hown1 := Lib.hid hown1
      have hF : w.heap.size + 3 ≤ wr.drew.heap.size := hF
      have hzb : wr.drew.heap[w.heap.size + 2]? = some (.cells #[.slice Ai (min ni 4360) ci, v] 27 (0, 0)) := hzb
      have Hb := Lib.hid hb
      clear hgbl hown hown1 hcs hb x0 q1
      refine wp_region_noPanic ?_
      refine wp_region_held_drew (S := (fun V => V.cell? ⟨w.heap.size, 1, none⟩ = some (.slice (some ⟨bb, bo, none⟩) nb cb) ∧ V.cell? ⟨bb, bo + k, none⟩ = some (.slice A1 n1 cc1))) (by kernel_rfl) ⟨x1, y1⟩ (fun hHeld => ?_)
      generalize hV1 : wr.drew = V1 at *
      have hHeld2 : (V1.alloc (.cells #[.slice A1 (min n1 260) cc1] 24)).cell? ⟨w.heap.size, 1, none⟩ = some (.slice (some ⟨bb, bo, none⟩) nb cb) ∧ (V1.alloc (.cells #[.slice A1 (min n1 260) cc1] 24)).cell? ⟨bb, bo + k, none⟩ = some (.slice A1 n1 cc1) := ⟨(World.cell?_alloc_lt _ _ _ (show w.heap.size < V1.heap.size by omega)).trans hHeld.1, (World.cell?_alloc_lt _ _ _ (show bb < V1.heap.size by omega)).trans hHeld.2⟩
      have zq := cell_blk hzb 1
      have zq2 := (World.cell?_alloc_lt V1 (.cells #[.slice A1 (min n1 260) cc1] 24) ⟨w.heap.size + 2, 1, none⟩ (show w.heap.size + 2 < V1.heap.size by omega)).trans zq
      have Hz := Lib.hid hzb
      clear hzb
      refine wpAnyH_take (i := 0) (v := .pointer (some ⟨w.heap.size + 2, 1, none⟩)) rfl (by kernel_rfl) (by kernel_rfl) (by kernel_rfl) (fun _ _ _ h => h) (.inl ⟨by rfl, fun V hV => by go_simp⟩) hHeld ?_
      try simp only [Act.put, qB, qC, qE, qF, qG]
      refine wpAnyH_take (i := 2) (v := .pointer (some ⟨w.heap.size, 1, none⟩)) rfl (by kernel_rfl) (by kernel_rfl) (by kernel_rfl) (fun _ _ _ h => h) (.inl ⟨by rfl, fun V hV => by obtain ⟨c0, c1⟩ := hV; go_simp⟩) hHeld ?_
      try simp only [Act.put, qB, qC, qD, qE, qF, qG]
      refine wpAnyH_take (i := 3) (v := .slice (some ⟨bb, bo, none⟩) nb cb) rfl (by kernel_rfl) (by kernel_rfl) (by kernel_rfl) (fun _ _ _ h => h) (.inl ⟨by rfl, fun V hV => by obtain ⟨c0, c1⟩ := hV; go_simp⟩) hHeld ?_
      try simp only [Act.put, qB, qC, qD, qE, qF, qG]
      refine wpAnyH_take (i := 4) (v := .int .i64 (k : Int)) rfl (by kernel_rfl) (by kernel_rfl) (by kernel_rfl) (fun _ _ _ h => h) (.inl ⟨by rfl, fun V hV => by obtain ⟨c0, c1⟩ := hV; go_simp⟩) hHeld ?_
      try simp only [Act.put, qB, qC, qD, qE, qF, qG]
      refine wpAnyH_take (i := 5) (v := .pointer (some ⟨bb, bo + k, none⟩)) rfl (by kernel_rfl) (by kernel_rfl) (by kernel_rfl) (fun _ _ _ h => h) (.inl ⟨by rfl, fun V hV => by obtain ⟨c0, c1⟩ := hV; go_simp⟩) hHeld ?_
      try simp only [Act.put, qB, qC, qD, qE, qF, qG]
      refine wpAnyH_take (i := 6) (v := .slice A1 n1 cc1) rfl (by kernel_rfl) (by kernel_rfl) (by kernel_rfl) (fun _ _ _ h => h) (.inl ⟨by rfl, fun V hV => by obtain ⟨c0, c1⟩ := hV; go_simp⟩) hHeld ?_
      try simp only [Act.put, qB, qC, qD, qE, qF, qG]
      refine wpAnyH_take (i := 7) (v := .pointer (some ⟨w.heap.size, 1, none⟩)) rfl (by kernel_rfl) (by kernel_rfl) (by kernel_rfl) (fun _ _ _ h => h) (.inl ⟨by rfl, fun V hV => by obtain ⟨c0, c1⟩ := hV; go_simp⟩) hHeld ?_
      try simp only [Act.put, qB, qC, qD, qE, qF, qG]
      refine wpAnyH_take (i := 8) (v := .slice (some ⟨bb, bo, none⟩) nb cb) rfl (by kernel_rfl) (by kernel_rfl) (by kernel_rfl) (fun _ _ _ h => h) (.inl ⟨by rfl, fun V hV => by obtain ⟨c0, c1⟩ := hV; go_simp⟩) hHeld ?_
      try simp only [Act.put, qB, qC, qD, qE, qF, qG]
      refine wpAnyH_take (i := 9) (v := .int .i64 (k : Int)) rfl (by kernel_rfl) (by kernel_rfl) (by kernel_rfl) (fun _ _ _ h => h) (.inl ⟨by rfl, fun V hV => by obtain ⟨c0, c1⟩ := hV; go_simp⟩) hHeld ?_
      try simp only [Act.put, qB, qC, qD, qE, qF, qG]
      refine wpAnyH_take (i := 10) (v := .pointer (some ⟨bb, bo + k, none⟩)) rfl (by kernel_rfl) (by kernel_rfl) (by kernel_rfl) (fun _ _ _ h => h) (.inl ⟨by rfl, fun V hV => by obtain ⟨c0, c1⟩ := hV; go_simp⟩) hHeld ?_
      try simp only [Act.put, qB, qC, qD, qE, qF, qG]
      refine wpAnyH_take (i := 11) (v := .slice A1 n1 cc1) rfl (by kernel_rfl) (by kernel_rfl) (by kernel_rfl) (fun _ _ _ h => h) (.inl ⟨by rfl, fun V hV => by obtain ⟨c0, c1⟩ := hV; go_simp⟩) hHeld ?_
      try simp only [Act.put, qB, qC, qD, qE, qF, qG]
      refine wpAnyH_take (i := 12) (v := .int .i64 (n1 : Int)) rfl (by kernel_rfl) (by kernel_rfl) (by kernel_rfl) (fun _ _ _ h => h) (.inl ⟨by rfl, fun V hV => by obtain ⟨c0, c1⟩ := hV; go_simp⟩) hHeld ?_
      try simp only [Act.put, qB, qC, qD, qE, qF, qG]
      refine wpAnyH_take (i := 13) (v := .int .i64 (min (n1 : Int) 260)) rfl (by kernel_rfl) (by kernel_rfl) (by kernel_rfl) (fun _ _ _ h => h) (.inl ⟨by rfl, fun V hV => by obtain ⟨c0, c1⟩ := hV; go_simp⟩) hHeld ?_
      try simp only [Act.put, qB, qC, qD, qE, qF, qG]
      refine wpAnyH_take (i := 14) (v := .slice A1 (min n1 260) cc1) rfl (by kernel_rfl) (by kernel_rfl) (by kernel_rfl) (fun _ _ _ h => h) (.inl ⟨by rfl, fun V hV => by obtain ⟨c0, c1⟩ := hV; go_simp; rw [if_pos ⟨by omega, by omega⟩, show (min (n1 : Int) 260).toNat = min n1 260 by omega]⟩) hHeld ?_
      try simp only [Act.put, qB, qC, qD, qE, qF, qG]
      refine wpAnyH_ready (rs := [1, 15]) (by kernel_rfl) (by simp) ?_
      refine AllReadyH.cons rfl (fun K hK => ?_) (AllReadyH.cons rfl (fun K hK => ?_) AllReadyH.nil)
      · go_simp
        refine hK.out _ _ hHeld (fun hHeld => ?_)
        clear hK K
        try simp only [Act.put, qB, qC, qD, qE, qF, qG]
        refine wpAnyH_ready (rs := [15]) (by kernel_rfl) (by simp) ?_
        refine AllReadyH.cons rfl (fun K hK => ?_) AllReadyH.nil
        go_simp
        refine hK.out _ _ hHeld2 (fun hHeld => ?_)
        clear hK K
        try simp only [Act.put, qB, qC, qD, qE, qF, qG]
        refine wpAnyH_ready (rs := [16]) (by kernel_rfl) (by simp) ?_
        refine AllReadyH.cons rfl (fun K hK => ?_) AllReadyH.nil
        refine step_append_mine rfl _ _ 25 rfl (w.heap.size + 3) 24 i0 (.slice none 0 0) 1 24 Tryz.underlying25 hi0 hz0 hz1 hz2 rfl (by decide) v k xs (by simp [Act.eval]) Hown1.out ⟨V1.heap.size, 0, none⟩ 1 1 [.slice A1 (min n1 260) cc1] (by simp [Act.eval]) rfl Hcs.out (by simp [Value.oneCell']) (by simp only [maxLen]; omega) (by omega) hbs ?_
        intro v5 V5 hown5 hgrow
        obtain ⟨g5, cap5, rfl⟩ := ownsRow_succ hown5
        obtain ⟨k1, k2, k3, k4, k5⟩ := field_appended2 (n₀ := w.heap.size) (j := 1) Hz.out (by decide) Hown.out hF (by omega) (by omega) hown5 hgrow
        have hH5 : V5.cell? ⟨w.heap.size, 1, none⟩ = some (.slice (some ⟨bb, bo, none⟩) nb cb) ∧ V5.cell? ⟨bb, bo + k, none⟩ = some (.slice A1 n1 cc1) := ⟨(World.cell?_of_block (a := ⟨w.heap.size, 1, none⟩) (Hgb.out V5 hgrow w.heap.size (by omega))).trans hHeld.1, (World.cell?_of_block (a := ⟨bb, bo + k, none⟩) (Hgb.out V5 hgrow bb (by omega))).trans hHeld.2⟩
        have z5 := cell_blk k1 0
        have z6 := cell_blk k1 1
        have z7 := frozen_blk k1 1
        have hH6 : (V5.setCell ⟨w.heap.size + 2, 1, none⟩ (.slice (some ⟨g5, 0, none⟩) (k + 1) cap5)).cell? ⟨w.heap.size, 1, none⟩ = some (.slice (some ⟨bb, bo, none⟩) nb cb) ∧ (V5.setCell ⟨w.heap.size + 2, 1, none⟩ (.slice (some ⟨g5, 0, none⟩) (k + 1) cap5)).cell? ⟨bb, bo + k, none⟩ = some (.slice A1 n1 cc1) := ⟨(World.cell?_of_block (a := ⟨w.heap.size, 1, none⟩) (Below.heap_setCell _ _ _ _ (by show w.heap.size ≠ w.heap.size + 2; omega))).trans hH5.1, (World.cell?_of_block (a := ⟨bb, bo + k, none⟩) (Below.heap_setCell _ _ _ _ (by show bb ≠ w.heap.size + 2; omega))).trans hH5.2⟩
        have HH6 := Lib.hid hH6
        have K2 := Lib.hid k2
        have K3 := Lib.hid k3
        have K4 := Lib.hid k4
        have K5 := Lib.hid k5
        clear hH6 k1 k2 k3 k4 k5 hown5 hgrow
        refine hK.out _ _ hH5 (fun hHeld => ?_)
        clear hK K
        try simp only [Act.put, qB, qC, qD, qE, qF, qG]
        refine wpAnyH_take (i := 17) (v := .pointer (some ⟨w.heap.size + 2, 1, none⟩)) rfl (by kernel_rfl) (by kernel_rfl) (by kernel_rfl) (fun _ _ _ h => h) (.inl ⟨by rfl, fun V hV => by go_simp⟩) hHeld ?_
        try simp only [Act.put, qB, qC, qD, qE, qF, qG]
        refine wpAnyH_ready (rs := [18]) (by kernel_rfl) (by simp) ?_
        refine AllReadyH.cons rfl (fun K hK => ?_) AllReadyH.nil
        go_simp
        refine hK.out _ _ HH6.out (fun hHeld => ?_)
        clear hK K
        try simp only [Act.put, qB, qC, qD, qE, qF, qG]
        refine wpAnyH_done (by kernel_rfl) ?_ _
        refine NoPanic.normal ?_
        clear hHeld
        subst hV1
        have hx5 := (K5.out w.heap.size (by omega) (by omega)).trans hx1
        have hr5 := (K5.out (w.heap.size + 1) (by omega) (by omega)).trans hr1
        have hs5 := K4.out.size
        have hb5 := Hb.out.drew.trans K4.out
        go_wp2_with fail
        go_roundw
        case rel => exact ⟨k + 1, by omega, by omega, by go_num, ⟨_, _, K2.out, K3.out, Hsl2.out, hx5, hr5, hb5, by omega⟩⟩
        case measure => simp [RowKit.intOf]; omega
      · go_simp
        refine hK.out _ _ hHeld2 (fun hHeld => ?_)
        clear hK K
        try simp only [Act.put, qB, qC, qD, qE, qF, qG]
        refine wpAnyH_ready (rs := [1]) (by kernel_rfl) (by simp) ?_
        refine AllReadyH.cons rfl (fun K hK => ?_) AllReadyH.nil
        go_simp
        refine hK.out _ _ hHeld (fun hHeld => ?_)
        clear hK K
        try simp only [Act.put, qB, qC, qD, qE, qF, qG]
        refine wpAnyH_ready (rs := [16]) (by kernel_rfl) (by simp) ?_
        refine AllReadyH.cons rfl (fun K hK => ?_) AllReadyH.nil
        refine step_append_mine rfl _ _ 25 rfl (w.heap.size + 3) 24 i0 (.slice none 0 0) 1 24 Tryz.underlying25 hi0 hz0 hz1 hz2 rfl (by decide) v k xs (by simp [Act.eval]) Hown1.out ⟨V1.heap.size, 0, none⟩ 1 1 [.slice A1 (min n1 260) cc1] (by simp [Act.eval]) rfl Hcs.out (by simp [Value.oneCell']) (by simp only [maxLen]; omega) (by omega) hbs ?_
        intro v5 V5 hown5 hgrow
        obtain ⟨g5, cap5, rfl⟩ := ownsRow_succ hown5
        obtain ⟨k1, k2, k3, k4, k5⟩ := field_appended2 (n₀ := w.heap.size) (j := 1) Hz.out (by decide) Hown.out hF (by omega) (by omega) hown5 hgrow
        have hH5 : V5.cell? ⟨w.heap.size, 1, none⟩ = some (.slice (some ⟨bb, bo, none⟩) nb cb) ∧ V5.cell? ⟨bb, bo + k, none⟩ = some (.slice A1 n1 cc1) := ⟨(World.cell?_of_block (a := ⟨w.heap.size, 1, none⟩) (Hgb.out V5 hgrow w.heap.size (by omega))).trans hHeld.1, (World.cell?_of_block (a := ⟨bb, bo + k, none⟩) (Hgb.out V5 hgrow bb (by omega))).trans hHeld.2⟩
        have z5 := cell_blk k1 0
        have z6 := cell_blk k1 1
        have z7 := frozen_blk k1 1
        have hH6 : (V5.setCell ⟨w.heap.size + 2, 1, none⟩ (.slice (some ⟨g5, 0, none⟩) (k + 1) cap5)).cell? ⟨w.heap.size, 1, none⟩ = some (.slice (some ⟨bb, bo, none⟩) nb cb) ∧ (V5.setCell ⟨w.heap.size + 2, 1, none⟩ (.slice (some ⟨g5, 0, none⟩) (k + 1) cap5)).cell? ⟨bb, bo + k, none⟩ = some (.slice A1 n1 cc1) := ⟨(World.cell?_of_block (a := ⟨w.heap.size, 1, none⟩) (Below.heap_setCell _ _ _ _ (by show w.heap.size ≠ w.heap.size + 2; omega))).trans hH5.1, (World.cell?_of_block (a := ⟨bb, bo + k, none⟩) (Below.heap_setCell _ _ _ _ (by show bb ≠ w.heap.size + 2; omega))).trans hH5.2⟩
        have HH6 := Lib.hid hH6
        have K2 := Lib.hid k2
        have K3 := Lib.hid k3
        have K4 := Lib.hid k4
        have K5 := Lib.hid k5
        clear hH6 k1 k2 k3 k4 k5 hown5 hgrow
        refine hK.out _ _ hH5 (fun hHeld => ?_)
        clear hK K
        try simp only [Act.put, qB, qC, qD, qE, qF, qG]
        refine wpAnyH_take (i := 17) (v := .pointer (some ⟨w.heap.size + 2, 1, none⟩)) rfl (by kernel_rfl) (by kernel_rfl) (by kernel_rfl) (fun _ _ _ h => h) (.inl ⟨by rfl, fun V hV => by go_simp⟩) hHeld ?_
        try simp only [Act.put, qB, qC, qD, qE, qF, qG]
        refine wpAnyH_ready (rs := [18]) (by kernel_rfl) (by simp) ?_
        refine AllReadyH.cons rfl (fun K hK => ?_) AllReadyH.nil
        go_simp
        refine hK.out _ _ HH6.out (fun hHeld => ?_)
        clear hK K
        try simp only [Act.put, qB, qC, qD, qE, qF, qG]
        refine wpAnyH_done (by kernel_rfl) ?_ _
        refine NoPanic.normal ?_
        clear hHeld
        subst hV1
        have hx5 := (K5.out w.heap.size (by omega) (by omega)).trans hx1
        have hr5 := (K5.out (w.heap.size + 1) (by omega) (by omega)).trans hr1
        have hs5 := K4.out.size
        have hb5 := Hb.out.drew.trans K4.out
        go_wp2_with fail
        go_roundw
        case rel => exact ⟨k + 1, by omega, by omega, by go_num, ⟨_, _, K2.out, K3.out, Hsl2.out, hx5, hr5, hb5, by omega⟩⟩
        case measure => simp [RowKit.intOf]; omega
    · have hall : cutB (T.bl.take k) = cutB T.bl := by
        unfold cutB
        rw [List.take_take]
        rcases Nat.lt_or_ge k 30 with h | h
        · have : k = nb := by omega
          rw [Nat.min_eq_right (by omega), List.take_of_length_le (by rw [Hlen.out]; omega), List.take_of_length_le (by rw [Hlen.out]; omega)]
        · rw [Nat.min_eq_left (by omega)]
      have hcl : (cutB (T.bl.take k)).length = k := by
        unfold cutB
        rw [List.length_map, List.length_take, List.length_take, Hlen.out]
        omega
      have hcase : nb ≤ k ∨ (k < nb ∧ 30 ≤ k) := by omega
      rw [hall] at hsl hcl
      have h30 := (cutB_len T.bl).1
      rw [← hcl] at hown
      obtain ⟨Ab', cb', rfl, hcb, hTF⟩ := triF_own (T := cutT T) (Ai := Ai) (ni := min ni 4360) (((Hix.out.front 4360).below (hb.mono hB))) hown (hsl.below (hb.mono hB))
      obtain ⟨g1, g2, g3, g4⟩ := trie_stored (.slice Ai (min ni 4360) ci) (.slice Ab' (cutB T.bl).length cb') hr1 hb (Nat.le_succ _)
      have HTF := Lib.hid (TriF.wider (hTF.keep (by rw [g4]; exact Nat.le_refl _) (fun k hk => g3 k (by omega)) (fun k hk _ => g3 k (by omega))) (show w.heap.size ≤ w.heap.size + 3 by omega))
      have G1 := Lib.hid g1
      have G2 := Lib.hid g2
      have x0 := cell_blk hx1 0
      have x1 := cell_blk hx1 1
      obtain ⟨z0, z1⟩ := cells2 hzb
      obtain ⟨r0, r1⟩ := cells2 hr1
      have s0 := frozen_blk hr1 0
      have s1 := frozen_blk hr1 1
      have hcb : (cutB T.bl).length ≤ cb' := hcb
      change wr.heap[w.heap.size + 2]? = some (.cells #[.slice Ai (min ni 4360) ci, .slice Ab' (cutB T.bl).length cb'] 27 (0, 0)) at hzb
      clear hlt hall hown hcl hTF hsl g1 g2 g3 g4 hI0
      rcases hcase with h | ⟨h, h'⟩
      · skip
        go_wp2_with fail
        obtain ⟨j0, j1⟩ := cells2 G1.out
        (try simp only [Exit.inBlock, Exit.then])
        refine bodyPost_ret (v := .agg #[.slice Ai (min ni 4360) ci, .slice Ab' (cutB T.bl).length cb']) (results_cell2 rfl rfl j0 j1) rfl ?_
        exact ⟨⟨_, _, _, _, rfl, hm4, hcb, by omega, h30, HTF.out⟩, G2.out⟩
      · skip
        go_wp2_with fail
        obtain ⟨j0, j1⟩ := cells2 G1.out
        (try simp only [Exit.inBlock, Exit.then])
        refine bodyPost_ret (v := .agg #[.slice Ai (min ni 4360) ci, .slice Ab' (cutB T.bl).length cb']) (results_cell2 rfl rfl j0 j1) rfl ?_
        exact ⟨⟨_, _, _, _, rfl, hm4, hcb, by omega, h30, HTF.out⟩, G2.out⟩
end Go.Vir



namespace Go.Vir
open Go Go.RowKit Go.Proofs Go.Shelf Go.Sort
attribute [local go_sem] Oper.semAt_some

structure MpsF (W : World) (B F : Nat) (A : Option Addr) (n : Nat) (l : List MpV) : Prop where
  len : l.length = n
  at_ : 0 < n → ∃ g, A = some ⟨g, 0, none⟩ ∧ F ≤ g ∧ g < W.heap.size ∧ ∀ (j : Nat) (h : j < l.length), ∃ A' n' c', W.cell? ⟨g, j * 2, none⟩ = some (.int .i64 l[j].f) ∧ W.cell? ⟨g, j * 2 + 1, none⟩ = some (.slice A' n' c') ∧ Ints W B A' n' l[j].ts ∧ n' ≤ c'
theorem MpsF.mps {W : World} {B F n : Nat} {A : Option Addr} {l : List MpV} (h : MpsF W B F A n l) (hB : B ≤ W.heap.size) : Mps W W.heap.size A n l := by
  refine ⟨h.len, fun hn => ?_⟩
  obtain ⟨g, e, _, hg, hc⟩ := h.at_ hn
  refine ⟨g, 0, e, hg, fun j hj => ?_⟩
  obtain ⟨A', n', c', a, b, c, d⟩ := hc j hj
  exact ⟨A', n', c', by rw [Nat.zero_add]; exact a, by rw [Nat.zero_add]; exact b, c.more hB, d⟩
theorem MpsF.keep {W W' : World} {B F n : Nat} {A : Option Addr} {l : List MpV} (h : MpsF W B F A n l) (hs : W.heap.size ≤ W'.heap.size) (h1 : ∀ k, k < B → W'.heap[k]? = W.heap[k]?) (h2 : ∀ k, F ≤ k → k < W.heap.size → W'.heap[k]? = W.heap[k]?) : MpsF W' B F A n l := by
  refine ⟨h.len, fun hn => ?_⟩
  obtain ⟨g, e, hF, hg, hc⟩ := h.at_ hn
  refine ⟨g, e, hF, by omega, fun j hj => ?_⟩
  obtain ⟨A', n', c', a, b, c, d⟩ := hc j hj
  exact ⟨A', n', c', (World.cell?_of_block (a := ⟨g, j * 2, none⟩) (h2 g hF hg)).trans a, (World.cell?_of_block (a := ⟨g, j * 2 + 1, none⟩) (h2 g hF hg)).trans b, c.lowB h1, d⟩
theorem MpsF.wider {W : World} {B F F' n : Nat} {A : Option Addr} {l : List MpV} (h : MpsF W B F A n l) (hF : F' ≤ F) : MpsF W B F' A n l :=
  ⟨h.len, fun hn => by obtain ⟨g, e, h1, h2, hc⟩ := h.at_ hn; exact ⟨g, e, by omega, h2, hc⟩⟩
theorem mpsF_own {W w : World} {B F : Nat} {v : Value} {rs : List MpV} {xs : List Value} (h : W.ownsRow F 68 2 v rs.length xs) (hr : MCs w B 0 none rs xs) (hb : Below B w W) :
    ∃ A n c, v = .slice A n c ∧ n ≤ c ∧ MpsF W B F A n rs := by
  rcases h.2 with ⟨rfl, h0⟩ | ⟨gb, cap, cur, rfl, hF, hg, hc, _, _, ht⟩
  · have : rs = [] := List.eq_nil_of_length_eq_zero h0
    subst this
    exact ⟨none, 0, 0, rfl, Nat.le_refl _, rfl, fun h => absurd h (by omega)⟩
  · refine ⟨_, _, cap, rfl, hc, rfl, fun h0 => ⟨gb, rfl, hF, (Array.getElem?_eq_some_iff.1 hg).1, fun j hj => ?_⟩⟩
    obtain ⟨A, n, c, hm, hn, h0, h1⟩ := hr.get j hj
    have key : ∀ i u, i < 2 → xs[j * 2 + i]? = some u → W.cell? ⟨gb, j * 2 + i, none⟩ = some u := fun i u hi hx => by
      rw [cell_blk hg]
      rw [← ht, List.getElem?_take] at hx
      split at hx
      · simpa using hx
      · cases hx
    exact ⟨A, n, c, key 0 _ (by omega) h0, key 1 _ (by omega) h1, hm.below hb, hn⟩

set_option maxRecDepth 100000 in
set_option maxHeartbeats 4000000 in
theorem law16_few (B : Nat) (A : Option Addr) (n c : Nat) (l : List MpV) (w : World) (hx : Mps w B A n l) (hB : B ≤ w.heap.size) (hn : n ≤ 9223372036854775807) (hts : ∀ x ∈ l, x.ts.length ≤ 9223372036854775807) :
    Calls Tryz.prog 32 #[.slice A n c] w fun e w' => (∃ A' n' c', e = .returned (.slice A' n' c') ∧ n' ≤ c' ∧ MpsF w' B w.heap.size A' n' (fewM l)) ∧ Below w.heap.size w w' := by
  obtain ⟨i0, hi0, hz0, hz1, hz2⟩ := info_parts map_info
  have Hx := Lib.hid hx
  have Hts := Lib.hid hts
  have Hlen := Lib.hid hx.len
  clear hx hts
  go_enter Tryz.func32, Tryz.ntmps32
  go_upto_region 3 with fail
  go_loopw [3, 4] (fun v i wr => ∃ k : Nat, k ≤ n ∧ k ≤ 40 ∧ i = .int .i64 (k : Int) ∧ ∃ v0 xs, v0 = v ∧ wr.ownsRow w.heap.size 68 2 v0 (fewM (l.take k)).length xs ∧ MCs w B 0 none (fewM (l.take k)) xs ∧ Below w.heap.size w wr) (fun _ i _ => 40 - (RowKit.intOf i).toNat)
  case atStart => exact ⟨0, Nat.zero_le _, Nat.zero_le _, rfl, .slice none 0 0, [], rfl, World.ownsRow_nil _ _ _ _, rfl, Below.refl _ _⟩
  case round =>
    obtain ⟨k, hk, hk40, rfl, v, xs, rfl, hown, hmc, hb⟩ := hrel
    by_cases hlt : k < n ∧ k < 40
    · obtain ⟨h1, h2⟩ := hlt
      obtain ⟨bb, bo, rfl, hbb, hbc⟩ := Hx.out.at_ (by omega)
      have hkl : k < l.length := by rw [Hlen.out]; exact h1
      obtain ⟨A1, n1, ca, hc0, hc1, hi1, hnc1⟩ := hbc k hkl
      have hl1 := hi1.len
      have hn1 : n1 ≤ 9223372036854775807 := by rw [← hl1]; exact Hts.out _ (List.getElem_mem hkl)
      have hsucc := fewM_succ hkl h2
      have hms := hmc.snoc (x := { f := l[k].f, ts := l[k].ts.take 5 }) (A := A1) (n := min n1 5) (c := ca) (hi1.front 5) (by omega) (fun h0 => by
        obtain ⟨b, o, e, _, _⟩ := hi1.at_ (by omega)
        exact ⟨b, o, e, Nat.zero_le _, by simp⟩)
      rw [← hsucc] at hms
      have hL : (fewM (l.take (k + 1))).length = (fewM (l.take k)).length + 1 := by rw [hsucc]; simp
      have hL40 := (fewM_len (l.take k)).1
      have y0 := (cellOf hb (show bb < w.heap.size by omega)).trans hc0
      have y1 := (cellOf hb (show bb < w.heap.size by omega)).trans hc1
      unfold mapCs at hms
      simp only at hms
      have hss := hb.size
      have hbl : bb < wr.drew.heap.size := by show bb < wr.heap.size; omega
      generalize l[k].f = f at *
      have hown1 := hown.drew.alloc (.cells #[.int .i64 f, .slice A1 (min n1 5) ca] 68)
      have hcs : ∀ (j : Nat) (u : Value), [Value.int .i64 f, Value.slice A1 (min n1 5) ca][j]? = some u → (wr.drew.alloc (.cells #[.int .i64 f, .slice A1 (min n1 5) ca] 68)).cell? ((⟨wr.drew.heap.size, 0, none⟩ : Addr).add j) = some u := cell_two_new wr.drew _ _ _
      have hbs : w.heap.size ≤ (wr.drew.alloc (.cells #[.int .i64 f, .slice A1 (min n1 5) ca] 68)).heap.size := by simp; omega
      have hba : Below w.heap.size w (wr.drew.alloc (.cells #[.int .i64 f, .slice A1 (min n1 5) ca] 68)) := hb.drew.alloc hss _
      have hgb : ∀ (V5 : World), (wr.drew.alloc (.cells #[.int .i64 f, .slice A1 (min n1 5) ca] 68)).grownBy V5 v.ownBlock → ∀ m, m < B → V5.heap[m]? = (wr.drew.alloc (.cells #[.int .i64 f, .slice A1 (min n1 5) ca] 68)).heap[m]? := fun V5 hg m hm => by
        refine hg.block m (by simp; omega) (fun e => ?_)
        have := (row_data hown m e.symm).1
        omega
      have hb5 : ∀ (V5 : World), (wr.drew.alloc (.cells #[.int .i64 f, .slice A1 (min n1 5) ca] 68)).grownBy V5 v.ownBlock → Below w.heap.size w V5 := fun V5 hg =>
        hba.grown hg hba.size (fun q hq => by have := (row_data hown q hq).1; omega)
      have Hcs := Lib.hid hcs
      have Hown1 := Lib.hid hown1
      have Hgb := Lib.hid hgb
      have Hb5 := Lib.hid hb5
      have HM := Lib.hid hms
      have HL := Lib.hid hL
      have hm3 : 0 ≤ min (n1 : Int) 5 := by omega
      have hm2 : min (n1 : Int) 5 ≤ (ca : Int) := by omega
      generalize (fewM (l.take k)).length = L at *
      clear hms hL hsucc hmc hown hown1 hcs hgb hb5 hba hb hc0 hc1 hi1 hl1 hbc hss
      go_upto_region 5 with fail
      refine wp_region_noPanic ?_
      refine wp_region_held_drew (S := (fun V => V.cell? ⟨bb, bo + k * 2, none⟩ = some (.int .i64 f) ∧ V.cell? ⟨bb, bo + k * 2 + 1, none⟩ = some (.slice A1 n1 ca))) (by kernel_rfl) ⟨y0, y1⟩ (fun hHeld => ?_)
      generalize hV1 : wr.drew = V1 at *
      have hHeld2 : (V1.alloc (.cells #[.int .i64 f, .slice A1 (min n1 5) ca] 68)).cell? ⟨bb, bo + k * 2, none⟩ = some (.int .i64 f) ∧ (V1.alloc (.cells #[.int .i64 f, .slice A1 (min n1 5) ca] 68)).cell? ⟨bb, bo + k * 2 + 1, none⟩ = some (.slice A1 n1 ca) := ⟨(World.cell?_alloc_lt _ _ _ (show bb < V1.heap.size by omega)).trans hHeld.1, (World.cell?_alloc_lt _ _ _ (show bb < V1.heap.size by omega)).trans hHeld.2⟩
      refine wpAnyH_take (i := 0) (v := v) rfl (by kernel_rfl) (by kernel_rfl) (by kernel_rfl) (fun _ _ _ h => h) (.inl ⟨by rfl, fun V hV => by obtain ⟨c0, c1⟩ := hV; go_simp⟩) hHeld ?_
      try simp only [Act.put, qB, qC, qE, qF, qG]
      refine wpAnyH_take (i := 1) (v := .slice (some ⟨bb, bo, none⟩) n c) rfl (by kernel_rfl) (by kernel_rfl) (by kernel_rfl) (fun _ _ _ h => h) (.inl ⟨by rfl, fun V hV => by obtain ⟨c0, c1⟩ := hV; go_simp⟩) hHeld ?_
      try simp only [Act.put, qB, qC, qD, qE, qF, qG]
      refine wpAnyH_take (i := 2) (v := .int .i64 (k : Int)) rfl (by kernel_rfl) (by kernel_rfl) (by kernel_rfl) (fun _ _ _ h => h) (.inl ⟨by rfl, fun V hV => by obtain ⟨c0, c1⟩ := hV; go_simp⟩) hHeld ?_
      try simp only [Act.put, qB, qC, qD, qE, qF, qG]
      refine wpAnyH_take (i := 3) (v := .pointer (some ⟨bb, bo + k * 2, none⟩)) rfl (by kernel_rfl) (by kernel_rfl) (by kernel_rfl) (fun _ _ _ h => h) (.inl ⟨by rfl, fun V hV => by obtain ⟨c0, c1⟩ := hV; go_simp⟩) hHeld ?_
      try simp only [Act.put, qB, qC, qD, qE, qF, qG]
      refine wpAnyH_take (i := 4) (v := .pointer (some ⟨bb, bo + k * 2, none⟩)) rfl (by kernel_rfl) (by kernel_rfl) (by kernel_rfl) (fun _ _ _ h => h) (.inl ⟨by rfl, fun V hV => by obtain ⟨c0, c1⟩ := hV; go_simp⟩) hHeld ?_
      try simp only [Act.put, qB, qC, qD, qE, qF, qG]
      refine wpAnyH_take (i := 5) (v := .int .i64 f) rfl (by kernel_rfl) (by kernel_rfl) (by kernel_rfl) (fun _ _ _ h => h) (.inl ⟨by rfl, fun V hV => by obtain ⟨c0, c1⟩ := hV; go_simp⟩) hHeld ?_
      try simp only [Act.put, qB, qC, qD, qE, qF, qG]
      refine wpAnyH_take (i := 6) (v := .slice (some ⟨bb, bo, none⟩) n c) rfl (by kernel_rfl) (by kernel_rfl) (by kernel_rfl) (fun _ _ _ h => h) (.inl ⟨by rfl, fun V hV => by obtain ⟨c0, c1⟩ := hV; go_simp⟩) hHeld ?_
      try simp only [Act.put, qB, qC, qD, qE, qF, qG]
      refine wpAnyH_take (i := 7) (v := .int .i64 (k : Int)) rfl (by kernel_rfl) (by kernel_rfl) (by kernel_rfl) (fun _ _ _ h => h) (.inl ⟨by rfl, fun V hV => by obtain ⟨c0, c1⟩ := hV; go_simp⟩) hHeld ?_
      try simp only [Act.put, qB, qC, qD, qE, qF, qG]
      refine wpAnyH_take (i := 8) (v := .pointer (some ⟨bb, bo + k * 2, none⟩)) rfl (by kernel_rfl) (by kernel_rfl) (by kernel_rfl) (fun _ _ _ h => h) (.inl ⟨by rfl, fun V hV => by obtain ⟨c0, c1⟩ := hV; go_simp⟩) hHeld ?_
      try simp only [Act.put, qB, qC, qD, qE, qF, qG]
      refine wpAnyH_take (i := 9) (v := .pointer (some ⟨bb, bo + k * 2 + 1, none⟩)) rfl (by kernel_rfl) (by kernel_rfl) (by kernel_rfl) (fun _ _ _ h => h) (.inl ⟨by rfl, fun V hV => by obtain ⟨c0, c1⟩ := hV; go_simp⟩) hHeld ?_
      try simp only [Act.put, qB, qC, qD, qE, qF, qG]
      refine wpAnyH_take (i := 10) (v := .slice A1 n1 ca) rfl (by kernel_rfl) (by kernel_rfl) (by kernel_rfl) (fun _ _ _ h => h) (.inl ⟨by rfl, fun V hV => by obtain ⟨c0, c1⟩ := hV; go_simp⟩) hHeld ?_
      try simp only [Act.put, qB, qC, qD, qE, qF, qG]
      refine wpAnyH_take (i := 11) (v := .slice (some ⟨bb, bo, none⟩) n c) rfl (by kernel_rfl) (by kernel_rfl) (by kernel_rfl) (fun _ _ _ h => h) (.inl ⟨by rfl, fun V hV => by obtain ⟨c0, c1⟩ := hV; go_simp⟩) hHeld ?_
      try simp only [Act.put, qB, qC, qD, qE, qF, qG]
      refine wpAnyH_take (i := 12) (v := .int .i64 (k : Int)) rfl (by kernel_rfl) (by kernel_rfl) (by kernel_rfl) (fun _ _ _ h => h) (.inl ⟨by rfl, fun V hV => by obtain ⟨c0, c1⟩ := hV; go_simp⟩) hHeld ?_
      try simp only [Act.put, qB, qC, qD, qE, qF, qG]
      refine wpAnyH_take (i := 13) (v := .pointer (some ⟨bb, bo + k * 2, none⟩)) rfl (by kernel_rfl) (by kernel_rfl) (by kernel_rfl) (fun _ _ _ h => h) (.inl ⟨by rfl, fun V hV => by obtain ⟨c0, c1⟩ := hV; go_simp⟩) hHeld ?_
      try simp only [Act.put, qB, qC, qD, qE, qF, qG]
      refine wpAnyH_take (i := 14) (v := .pointer (some ⟨bb, bo + k * 2 + 1, none⟩)) rfl (by kernel_rfl) (by kernel_rfl) (by kernel_rfl) (fun _ _ _ h => h) (.inl ⟨by rfl, fun V hV => by obtain ⟨c0, c1⟩ := hV; go_simp⟩) hHeld ?_
      try simp only [Act.put, qB, qC, qD, qE, qF, qG]
      refine wpAnyH_take (i := 15) (v := .slice A1 n1 ca) rfl (by kernel_rfl) (by kernel_rfl) (by kernel_rfl) (fun _ _ _ h => h) (.inl ⟨by rfl, fun V hV => by obtain ⟨c0, c1⟩ := hV; go_simp⟩) hHeld ?_
      try simp only [Act.put, qB, qC, qD, qE, qF, qG]
      refine wpAnyH_take (i := 16) (v := .int .i64 (n1 : Int)) rfl (by kernel_rfl) (by kernel_rfl) (by kernel_rfl) (fun _ _ _ h => h) (.inl ⟨by rfl, fun V hV => by obtain ⟨c0, c1⟩ := hV; go_simp⟩) hHeld ?_
      try simp only [Act.put, qB, qC, qD, qE, qF, qG]
      refine wpAnyH_take (i := 17) (v := .int .i64 (min (n1 : Int) 5)) rfl (by kernel_rfl) (by kernel_rfl) (by kernel_rfl) (fun _ _ _ h => h) (.inl ⟨by rfl, fun V hV => by obtain ⟨c0, c1⟩ := hV; go_simp⟩) hHeld ?_
      try simp only [Act.put, qB, qC, qD, qE, qF, qG]
      refine wpAnyH_take (i := 18) (v := .slice A1 (min n1 5) ca) rfl (by kernel_rfl) (by kernel_rfl) (by kernel_rfl) (fun _ _ _ h => h) (.inl ⟨by rfl, fun V hV => by obtain ⟨c0, c1⟩ := hV; go_simp; omega⟩) hHeld ?_
      try simp only [Act.put, qB, qC, qD, qE, qF, qG]
      refine wpAnyH_take (i := 19) (v := .agg #[.int .i64 f, .slice A1 (min n1 5) ca]) rfl (by kernel_rfl) (by kernel_rfl) (by kernel_rfl) (fun _ _ _ h => h) (.inl ⟨by rfl, fun V hV => by obtain ⟨c0, c1⟩ := hV; go_simp⟩) hHeld ?_
      try simp only [Act.put, qB, qC, qD, qE, qF, qG]
      refine wpAnyH_ready (rs := [20]) (by kernel_rfl) (by simp) ?_
      refine AllReadyH.cons rfl (fun K hK => ?_) AllReadyH.nil
      go_simp
      refine hK.out _ _ hHeld2 (fun hHeld => ?_)
      clear hK K
      try simp only [Act.put, qB, qC, qD, qE, qF, qG]
      refine wpAnyH_ready (rs := [21]) (by kernel_rfl) (by simp) ?_
      refine AllReadyH.cons rfl (fun K hK => ?_) AllReadyH.nil
      refine step_append_mine rfl _ _ 23 rfl w.heap.size 68 i0 (.agg #[.int .i64 0, .slice none 0 0]) 2 32 Tryz.underlying23 hi0 hz0 hz1 hz2 rfl (by decide) v L xs (by simp [Act.eval]) Hown1.out ⟨V1.heap.size, 0, none⟩ 1 1 [.int .i64 f, .slice A1 (min n1 5) ca] (by simp [Act.eval]) rfl Hcs.out (by intro u hu; simp at hu; rcases hu with rfl | rfl <;> rfl) (by simp only [maxLen]; omega) (by omega) hbs ?_
      intro v5 V5 hown5 hgrow
      have hH5 : V5.cell? ⟨bb, bo + k * 2, none⟩ = some (.int .i64 f) ∧ V5.cell? ⟨bb, bo + k * 2 + 1, none⟩ = some (.slice A1 n1 ca) := ⟨(World.cell?_of_block (a := ⟨bb, bo + k * 2, none⟩) (Hgb.out V5 hgrow bb hbb)).trans hHeld.1, (World.cell?_of_block (a := ⟨bb, bo + k * 2 + 1, none⟩) (Hgb.out V5 hgrow bb hbb)).trans hHeld.2⟩
      have hb5 := Hb5.out V5 hgrow
      have HO5 := Lib.hid hown5
      have HB5 := Lib.hid hb5
      clear hown5 hgrow hb5
      refine hK.out _ _ hH5 (fun hHeld => ?_)
      clear hK K
      try simp only [Act.put, qB, qC, qD, qE, qF, qG]
      refine wpAnyH_take (i := 22) (v := v5) rfl (by kernel_rfl) (by kernel_rfl) (by kernel_rfl) (fun _ _ _ h => h) (.inl ⟨by rfl, fun V hV => by go_simp⟩) hHeld ?_
      try simp only [Act.put, qB, qC, qD, qE, qF, qG]
      refine wpAnyH_done (by kernel_rfl) ?_ _
      refine NoPanic.normal ?_
      clear hHeld
      go_wp2_with fail
      go_roundw
      case rel => exact ⟨k + 1, by omega, by omega, by go_num, v5, xs ++ [.int .i64 f, .slice A1 (min n1 5) ca], rfl, (by rw [HL.out]; exact HO5.out), HM.out, HB5.out⟩
      case measure => simp [RowKit.intOf]; omega
    · have hfull : fewM (l.take k) = fewM l := by
        unfold fewM
        rw [List.take_take]
        congr 1
        rcases Nat.lt_or_ge k 40 with h | h
        · have hkn : l.length ≤ k := by rw [Hlen.out]; omega
          rw [List.take_of_length_le (by omega), List.take_of_length_le (by omega)]
        · congr 1; omega
      rw [hfull] at hown hmc
      obtain ⟨A', n', c', rfl, hnc, hf⟩ := mpsF_own hown hmc (hb.mono hB)
      have HF := Lib.hid hf
      have HB := Lib.hid hb
      clear hf hb hown hmc hfull
      rcases Nat.lt_or_ge k n with hkn | hkn
      · have h40 : ¬ k < 40 := fun h => hlt ⟨hkn, h⟩
        have h40i : ¬ (k : Int) < 40 := by omega
        go_wp2_with fail
        go_ret
        exact ⟨⟨A', n', c', rfl, hnc, HF.out⟩, HB.out⟩
      · have hkn2 : ¬ k < n := by omega
        go_wp2_with fail
        go_ret
        exact ⟨⟨A', n', c', rfl, hnc, HF.out⟩, HB.out⟩
end Go.Vir


namespace Go.Vir
open Go Go.RowKit Go.Proofs Go.Shelf
attribute [local go_sem] Oper.semAt_some

theorem results_cases1 {f : Func} {ts : Array Value} {W : World} {a : Nat} {u v x y z q : Value} {s : Tmp} (hf : f.results = #[.cell s 29]) (hs : ts[s]? = some (.pointer (some ⟨a, 0, none⟩)))
    (h0 : W.cell? ⟨a, 0, none⟩ = some u) (h1 : W.cell? ⟨a, 1, none⟩ = some v) (h2 : W.cell? ⟨a, 2, none⟩ = some x) (h3 : W.cell? ⟨a, 3, none⟩ = some y) (h4 : W.cell? ⟨a, 4, none⟩ = some z) (h5 : W.cell? ⟨a, 5, none⟩ = some q) :
    (results f ts).run Tryz.prog W = .ok (.agg #[u, v, x, y, z, q]) W := by
  simp [results, hf, hs, go_sem, h0, h1, h2, h3, h4, h5]
structure CasF (W : World) (B F : Nat) (a : CasA) (c : CasV) : Prop where
  lo : MpsF W B F a.Al a.nl c.lo
  ti : MpsF W B F a.At a.nt c.ti
  ca : TriF W B F a.Ci a.ni a.Cb a.nb c.ca
  ig : TriF W B F a.Ii a.mi a.Ib a.mb c.ig
theorem CasF.cas {W : World} {B F : Nat} {a : CasA} {c : CasV} (h : CasF W B F a c) (hB : B ≤ W.heap.size) : CasW W W.heap.size a c := ⟨h.lo.mps hB, h.ti.mps hB, h.ca.tri hB, h.ig.tri hB⟩
theorem CasF.keep {W W' : World} {B F : Nat} {a : CasA} {c : CasV} (h : CasF W B F a c) (hs : W.heap.size ≤ W'.heap.size) (h1 : ∀ k, k < B → W'.heap[k]? = W.heap[k]?) (h2 : ∀ k, F ≤ k → k < W.heap.size → W'.heap[k]? = W.heap[k]?) : CasF W' B F a c :=
  ⟨h.lo.keep hs h1 h2, h.ti.keep hs h1 h2, h.ca.keep hs h1 h2, h.ig.keep hs h1 h2⟩
structure CasS (a : CasA) (c : CasV) : Prop where
  nl : a.nl ≤ 9223372036854775807
  nt : a.nt ≤ 9223372036854775807
  ni : a.ni ≤ 9223372036854775807
  nb : a.nb ≤ 9223372036854775807
  mi : a.mi ≤ 9223372036854775807
  mb : a.mb ≤ 9223372036854775807
  ci : a.ni ≤ a.ci
  di : a.mi ≤ a.di
  lo : ∀ x ∈ c.lo, x.ts.length ≤ 9223372036854775807
  ti : ∀ x ∈ c.ti, x.ts.length ≤ 9223372036854775807
  ca : ∀ b ∈ c.ca.bl, b.length ≤ 9223372036854775807
  ig : ∀ b ∈ c.ig.bl, b.length ≤ 9223372036854775807
theorem tab_ok {W : World} {B F : Nat} {a : CasA} {c : CasV} (h : CasF W B F a (tabC c)) : CasOk a (tabC c) := by
  obtain ⟨l1, l2⟩ := fewM_len c.lo
  obtain ⟨l3, l4⟩ := fewM_len c.ti
  obtain ⟨t1, t2, t3⟩ := cutT_len c.ca
  obtain ⟨t4, t5, t6⟩ := cutT_len c.ig
  have e1 : (tabC c).lo.length = a.nl := h.lo.len
  have e2 : (tabC c).ti.length = a.nt := h.ti.len
  have e3 : (tabC c).ca.ix.length = a.ni := h.ca.ix.len
  have e4 : (tabC c).ca.bl.length = a.nb := h.ca.len
  have e5 : (tabC c).ig.ix.length = a.mi := h.ig.ix.len
  have e6 : (tabC c).ig.bl.length = a.mb := h.ig.len
  have q1 : (fewM c.lo).length = a.nl := e1
  have q2 : (fewM c.ti).length = a.nt := e2
  have q3 : (cutT c.ca).ix.length = a.ni := e3
  have q4 : (cutT c.ca).bl.length = a.nb := e4
  have q5 : (cutT c.ig).ix.length = a.mi := e5
  have q6 : (cutT c.ig).bl.length = a.mb := e6
  exact ⟨by omega, by omega, by omega, by omega, by omega, by omega, fun x hx => by have := l2 x hx; omega, fun x hx => by have := l4 x hx; omega, fun b hb => by have := t3 b hb; omega, fun b hb => by have := t6 b hb; omega⟩

set_option maxRecDepth 100000 in
set_option maxHeartbeats 8000000 in
theorem law16_Table (B : Nat) (a : CasA) (c : CasV) (w : World) (hC : CasW w B a c) (hB : B ≤ w.heap.size) (hS : CasS a c) :
    Calls Tryz.prog 12 #[a.val] w fun e w' => (∃ a', e = .returned a'.val ∧ CasF w' B w.heap.size a' (tabC c)) ∧ Below w.heap.size w w' := by
  have Hl := Lib.hid (fun (W : World) (hW : Below w.heap.size w W) => law16_few B a.Al a.nl a.cl c.lo W (Mps.below hC.lo (hW.mono hB)) (Nat.le_trans hB hW.size) hS.nl hS.lo)
  have Ht := Lib.hid (fun (W : World) (hW : Below w.heap.size w W) => law16_few B a.At a.nt a.ct c.ti W (Mps.below hC.ti (hW.mono hB)) (Nat.le_trans hB hW.size) hS.nt hS.ti)
  have Hc := Lib.hid (fun (W : World) (hW : Below w.heap.size w W) => law06_Table B a.Ci a.ni a.ci a.Cb a.nb a.cb c.ca W (Tri.below hC.ca (hW.mono hB)) (Nat.le_trans hB hW.size) hS.ci hS.nb hS.ni hS.ca)
  have Hg := Lib.hid (fun (W : World) (hW : Below w.heap.size w W) => law06_Table B a.Ii a.mi a.di a.Ib a.mb a.db c.ig W (Tri.below hC.ig (hW.mono hB)) (Nat.le_trans hB hW.size) hS.di hS.mb hS.mi hS.ig)
  clear hC hS
  obtain ⟨Al, nl, cl, At, nt, ct, Ci, ni, ci, Cb, nb, cb, Ii, mi, di, Ib, mb, db⟩ := a
  simp only [CasA.val, CasA.cs]
  simp only at Hl Ht Hc Hg
  obtain ⟨W0, hW0⟩ : ∃ W0, W0 = (w.alloc (.cells #[.slice Al nl cl, .slice At nt ct, .slice Ci ni ci, .slice Cb nb cb, .slice Ii mi di, .slice Ib mb db] 29)).alloc (.cells #[.slice none 0 0, .slice none 0 0, .slice none 0 0, .slice none 0 0, .slice none 0 0, .slice none 0 0] 29) := ⟨_, rfl⟩
  have hbw0 : Below w.heap.size w W0 := by rw [hW0]; go_grown
  have hx0 : W0.heap[w.heap.size]? = some (.cells #[.slice Al nl cl, .slice At nt ct, .slice Ci ni ci, .slice Cb nb cb, .slice Ii mi di, .slice Ib mb db] 29 (0, 0)) := (by rw [hW0]; simp (disch := (first | omega | (simp only [World.size_alloc]; done) | (simp only [World.size_alloc]; omega))) only [heap_laws])
  have hz0 : W0.heap[w.heap.size + 1]? = some (.cells #[.slice none 0 0, .slice none 0 0, .slice none 0 0, .slice none 0 0, .slice none 0 0, .slice none 0 0] 29 (0, 0)) := (by rw [hW0]; simp (disch := (first | omega | (simp only [World.size_alloc]; done) | (simp only [World.size_alloc]; omega))) only [heap_laws])
  have hsz : W0.heap.size = w.heap.size + 2 := by rw [hW0]; simp
  obtain ⟨e0, e1, e2, e3, e4, e5⟩ := cells6 hx0
  have Hbw0 := Lib.hid hbw0
  have Hx0 := Lib.hid hx0
  have Hz0 := Lib.hid hz0
  clear hbw0 hx0 hz0
  go_enter Tryz.func12, Tryz.ntmps12
  go_upto_region 1 with fail
  rw [← hW0]
  clear hW0
  refine wp_region_noPanic ?_
  refine wp_region_held_drew (S := (fun V => V.cell? ⟨w.heap.size, 0, none⟩ = some (.slice Al nl cl) ∧ V.cell? ⟨w.heap.size, 1, none⟩ = some (.slice At nt ct) ∧ V.cell? ⟨w.heap.size, 2, none⟩ = some (.slice Ci ni ci) ∧ V.cell? ⟨w.heap.size, 3, none⟩ = some (.slice Cb nb cb) ∧ V.cell? ⟨w.heap.size, 4, none⟩ = some (.slice Ii mi di) ∧ V.cell? ⟨w.heap.size, 5, none⟩ = some (.slice Ib mb db))) (by kernel_rfl) ⟨e0, e1, e2, e3, e4, e5⟩ (fun hHeld => ?_)
  refine wpAnyH_take (i := 0) (v := .pointer (some ⟨w.heap.size, 0, none⟩)) rfl (by kernel_rfl) (by kernel_rfl) (by kernel_rfl) (fun _ _ _ h => h) (.inl ⟨by rfl, fun V hV => by obtain ⟨c0, c1, c2, c3, c4, c5⟩ := hV; go_simp⟩) hHeld ?_
  try simp only [Act.put, qB, qC, qE, qF, qG]
  refine wpAnyH_take (i := 1) (v := .slice Al nl cl) rfl (by kernel_rfl) (by kernel_rfl) (by kernel_rfl) (fun _ _ _ h => h) (.inl ⟨by rfl, fun V hV => by obtain ⟨c0, c1, c2, c3, c4, c5⟩ := hV; go_simp⟩) hHeld ?_
  try simp only [Act.put, qB, qC, qD, qE, qF, qG]
  refine wpAnyH_take (i := 3) (v := .pointer (some ⟨w.heap.size, 1, none⟩)) rfl (by kernel_rfl) (by kernel_rfl) (by kernel_rfl) (fun _ _ _ h => h) (.inl ⟨by rfl, fun V hV => by obtain ⟨c0, c1, c2, c3, c4, c5⟩ := hV; go_simp⟩) hHeld ?_
  try simp only [Act.put, qB, qC, qD, qE, qF, qG]
  refine wpAnyH_take (i := 4) (v := .slice At nt ct) rfl (by kernel_rfl) (by kernel_rfl) (by kernel_rfl) (fun _ _ _ h => h) (.inl ⟨by rfl, fun V hV => by obtain ⟨c0, c1, c2, c3, c4, c5⟩ := hV; go_simp⟩) hHeld ?_
  try simp only [Act.put, qB, qC, qD, qE, qF, qG]
  refine wpAnyH_take (i := 6) (v := .pointer (some ⟨w.heap.size, 2, none⟩)) rfl (by kernel_rfl) (by kernel_rfl) (by kernel_rfl) (fun _ _ _ h => h) (.inl ⟨by rfl, fun V hV => by obtain ⟨c0, c1, c2, c3, c4, c5⟩ := hV; go_simp⟩) hHeld ?_
  try simp only [Act.put, qB, qC, qD, qE, qF, qG]
  refine wpAnyH_take (i := 7) (v := .agg #[.slice Ci ni ci, .slice Cb nb cb]) rfl (by kernel_rfl) (by kernel_rfl) (by kernel_rfl) (fun _ _ _ h => h) (.inl ⟨by rfl, fun V hV => by obtain ⟨c0, c1, c2, c3, c4, c5⟩ := hV; go_simp⟩) hHeld ?_
  try simp only [Act.put, qB, qC, qD, qE, qF, qG]
  refine wpAnyH_take (i := 9) (v := .pointer (some ⟨w.heap.size, 4, none⟩)) rfl (by kernel_rfl) (by kernel_rfl) (by kernel_rfl) (fun _ _ _ h => h) (.inl ⟨by rfl, fun V hV => by obtain ⟨c0, c1, c2, c3, c4, c5⟩ := hV; go_simp⟩) hHeld ?_
  try simp only [Act.put, qB, qC, qD, qE, qF, qG]
  refine wpAnyH_take (i := 10) (v := .agg #[.slice Ii mi di, .slice Ib mb db]) rfl (by kernel_rfl) (by kernel_rfl) (by kernel_rfl) (fun _ _ _ h => h) (.inl ⟨by rfl, fun V hV => by obtain ⟨c0, c1, c2, c3, c4, c5⟩ := hV; go_simp⟩) hHeld ?_
  try simp only [Act.put, qB, qC, qD, qE, qF, qG]
  refine wpAnyH_ready (rs := [2]) (by kernel_rfl) (by simp) ?_
  refine AllReadyH.cons rfl (fun K hK => ?_) AllReadyH.nil
  go_simp
  refine (Hl.out _ (Hbw0.out.drew)).mono ?_
  rintro e wA ⟨⟨Pl, ul, vl, rfl, ku1, hF1⟩, hbA⟩
  have hq0 : Below W0.heap.size W0 W0.drew := (Below.refl _ _).drew
  have hsz0 : W0.drew.heap.size = W0.heap.size := rfl
  have hqA := hq0.trans (hbA.mono hq0.size)
  have hxA := (hqA.block w.heap.size (by omega)).trans Hx0.out
  have hsA := hqA.size
  have HF1 := Lib.hid (hF1.wider (show w.heap.size + 2 ≤ W0.drew.heap.size by omega))
  clear hF1
  refine hK.out _ _ ⟨cell_blk hxA 0, cell_blk hxA 1, cell_blk hxA 2, cell_blk hxA 3, cell_blk hxA 4, cell_blk hxA 5⟩ (fun hHeld => ?_)
  clear hK K
  try simp only [Act.put, qB, qC, qD, qE, qF, qG]
  refine wpAnyH_ready (rs := [5]) (by kernel_rfl) (by simp) ?_
  refine AllReadyH.cons rfl (fun K hK => ?_) AllReadyH.nil
  go_simp
  refine (Ht.out _ (Hbw0.out.trans (hqA.mono Hbw0.out.size))).mono ?_
  rintro e wB ⟨⟨Pt, ut, vt, rfl, ku2, hF2⟩, hbB⟩
  have hqB := hqA.trans (hbB.mono hqA.size)
  have hxB := (hqB.block w.heap.size (by omega)).trans Hx0.out
  have hsB := hqB.size
  replace HF1 := Lib.hid (HF1.out.keep hbB.size (fun k hk => hbB.block k (by omega)) (fun k _ hk => hbB.block k hk))
  have HF2 := Lib.hid (hF2.wider (show w.heap.size + 2 ≤ wA.heap.size by omega))
  clear hF2
  refine hK.out _ _ ⟨cell_blk hxB 0, cell_blk hxB 1, cell_blk hxB 2, cell_blk hxB 3, cell_blk hxB 4, cell_blk hxB 5⟩ (fun hHeld => ?_)
  clear hK K
  try simp only [Act.put, qB, qC, qD, qE, qF, qG]
  refine wpAnyH_ready (rs := [8]) (by kernel_rfl) (by simp) ?_
  refine AllReadyH.cons rfl (fun K hK => ?_) AllReadyH.nil
  go_simp
  refine (Hc.out _ (Hbw0.out.trans (hqB.mono Hbw0.out.size))).mono ?_
  rintro e wC ⟨⟨ui, Qd, ud, vd, rfl, ka1, ka2, ka3, ka4, hF3⟩, hbC⟩
  have hsB2 := hqB.size
  have hqC := hqB.trans (hbC.mono hqB.size)
  have hxC := (hqC.block w.heap.size (by omega)).trans Hx0.out
  have hsC := hqC.size
  replace HF1 := Lib.hid (HF1.out.keep hbC.size (fun k hk => hbC.block k (by omega)) (fun k _ hk => hbC.block k hk))
  replace HF2 := Lib.hid (HF2.out.keep hbC.size (fun k hk => hbC.block k (by omega)) (fun k _ hk => hbC.block k hk))
  have HF3 := Lib.hid (hF3.wider (show w.heap.size + 2 ≤ wB.heap.size by omega))
  clear hF3
  refine hK.out _ _ ⟨cell_blk hxC 0, cell_blk hxC 1, cell_blk hxC 2, cell_blk hxC 3, cell_blk hxC 4, cell_blk hxC 5⟩ (fun hHeld => ?_)
  clear hK K
  try simp only [Act.put, qB, qC, qD, qE, qF, qG]
  refine wpAnyH_ready (rs := [11]) (by kernel_rfl) (by simp) ?_
  refine AllReadyH.cons rfl (fun K hK => ?_) AllReadyH.nil
  go_simp
  refine (Hg.out _ (Hbw0.out.trans (hqC.mono Hbw0.out.size))).mono ?_
  rintro e wD ⟨⟨xi, Qj, uj, vj, rfl, kb1, kb2, kb3, kb4, hF4⟩, hbD⟩
  have hqD := hqC.trans (hbD.mono hqC.size)
  have hxD := (hqD.block w.heap.size (by omega)).trans Hx0.out
  have hsD := hqD.size
  replace HF1 := Lib.hid (HF1.out.keep hbD.size (fun k hk => hbD.block k (by omega)) (fun k _ hk => hbD.block k hk))
  replace HF2 := Lib.hid (HF2.out.keep hbD.size (fun k hk => hbD.block k (by omega)) (fun k _ hk => hbD.block k hk))
  replace HF3 := Lib.hid (HF3.out.keep hbD.size (fun k hk => hbD.block k (by omega)) (fun k _ hk => hbD.block k hk))
  have HF4 := Lib.hid (hF4.wider (show w.heap.size + 2 ≤ wC.heap.size by omega))
  clear hF4
  refine hK.out _ _ ⟨cell_blk hxD 0, cell_blk hxD 1, cell_blk hxD 2, cell_blk hxD 3, cell_blk hxD 4, cell_blk hxD 5⟩ (fun hHeld => ?_)
  clear hK K
  try simp only [Act.put, qB, qC, qD, qE, qF, qG]
  refine wpAnyH_take (i := 12) (v := .agg #[.slice Pl ul vl, .slice Pt ut vt, .slice Ci ui ci, .slice Qd ud vd, .slice Ii xi di, .slice Qj uj vj]) rfl (by kernel_rfl) (by kernel_rfl) (by kernel_rfl) (fun _ _ _ h => h) (.inl ⟨by rfl, fun V hV => by obtain ⟨c0, c1, c2, c3, c4, c5⟩ := hV; go_simp⟩) hHeld ?_
  try simp only [Act.put, qB, qC, qD, qE, qF, qG]
  refine wpAnyH_ready (rs := [13]) (by kernel_rfl) (by simp) ?_
  refine AllReadyH.cons rfl (fun K hK => ?_) AllReadyH.nil
  have hz4 := (hqD.block (w.heap.size + 1) (by omega)).trans Hz0.out
  have hbwD := Hbw0.out.trans (hqD.mono Hbw0.out.size)
  obtain ⟨g1, g2, g3, g4⟩ := six_stored (.slice Pl ul vl) (.slice Pt ut vt) (.slice Ci ui ci) (.slice Qd ud vd) (.slice Ii xi di) (.slice Qj uj vj) hz4 hbwD (Nat.le_succ _)
  obtain ⟨i0, i1, i2, i3, i4, i5⟩ := cells6 hz4
  have s0 := frozen_blk hz4 0
  have s1 := frozen_blk hz4 1
  have s2 := frozen_blk hz4 2
  have s3 := frozen_blk hz4 3
  have s4 := frozen_blk hz4 4
  have s5 := frozen_blk hz4 5
  have hxE := (g3 w.heap.size (by omega)).trans hxD
  have hE := And.intro (cell_blk hxE 0) (And.intro (cell_blk hxE 1) (And.intro (cell_blk hxE 2) (And.intro (cell_blk hxE 3) (And.intro (cell_blk hxE 4) (cell_blk hxE 5)))))
  replace HF1 := Lib.hid (HF1.out.keep (Nat.le_of_eq g4.symm) (fun k hk => g3 k (by omega)) (fun k hk _ => g3 k (by omega)))
  replace HF2 := Lib.hid (HF2.out.keep (Nat.le_of_eq g4.symm) (fun k hk => g3 k (by omega)) (fun k hk _ => g3 k (by omega)))
  replace HF3 := Lib.hid (HF3.out.keep (Nat.le_of_eq g4.symm) (fun k hk => g3 k (by omega)) (fun k hk _ => g3 k (by omega)))
  replace HF4 := Lib.hid (HF4.out.keep (Nat.le_of_eq g4.symm) (fun k hk => g3 k (by omega)) (fun k hk _ => g3 k (by omega)))
  have G1 := Lib.hid g1
  have G2 := Lib.hid g2
  have HE := Lib.hid hE
  clear g1 g2 g3 g4 hxE hE hz4 hbwD
  go_simp
  refine hK.out _ _ HE.out (fun hHeld => ?_)
  clear hK K
  try simp only [Act.put, qB, qC, qD, qE, qF, qG]
  refine wpAnyH_done (by kernel_rfl) ?_ _
  refine NoPanic.normal ?_
  obtain ⟨j0, j1, j2, j3, j4, j5⟩ := cells6 G1.out
  go_wp2_with fail
  (try simp only [Exit.inBlock, Exit.then])
  refine bodyPost_ret (v := .agg #[.slice Pl ul vl, .slice Pt ut vt, .slice Ci ui ci, .slice Qd ud vd, .slice Ii xi di, .slice Qj uj vj]) (results_cases1 rfl rfl j0 j1 j2 j3 j4 j5) rfl ⟨?_, G2.out⟩
  refine ⟨⟨Pl, ul, vl, Pt, ut, vt, Ci, ui, ci, Qd, ud, vd, Ii, xi, di, Qj, uj, vj⟩, rfl, ?_, ?_, ?_, ?_⟩
  · exact HF1.out.wider (by omega)
  · exact HF2.out.wider (by omega)
  · exact HF3.out.wider (by omega)
  · exact HF4.out.wider (by omega)
end Go.Vir

