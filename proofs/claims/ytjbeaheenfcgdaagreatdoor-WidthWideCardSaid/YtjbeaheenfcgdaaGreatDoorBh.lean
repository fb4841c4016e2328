/- Joined texts: TbA, TbB, WdG, WdH, WdI, Trn, Pev, PrA, Fd1, Fd2. -/
import Derived.Test.YtjbeaheenfcgdaaGreatDoorBe
import Derived.Test.YtjbeaheenfcgdaaGreatDoorBf
import Derived.Test.YtjbeaheenfcgdaaGreatDoorBg
import Derived.Test.YtjbeaheenfcgdaaGreatDoorBa
import Derived.Test.YtjbeaheenfcgdaaGreatDoorBb
import Derived.Test.YtjbeaheenfcgdaaGreatDoorBd
import Derived.Deep.RegionHeld3
import Derived.Deep.DeepCutAuto
/- The walk: viramalaw06.Table. -/
namespace Go.Vir
open Go Go.RowKit Go.Proofs
attribute [local go_sem] Oper.semAt_some

/-- Blocks' slices. -/
def SlV (w : World) (B : Nat) (bls : List (List Int)) (xs : List Value) : Prop :=
  xs.length = bls.length ∧ ∀ (j : Nat) (h : j < bls.length), ∃ A' n' c', xs[j]? = some (.slice A' n' c') ∧ n' ≤ c' ∧ Ints w B A' n' bls[j]
theorem SlV.nil {w : World} {B : Nat} : SlV w B [] [] := ⟨rfl, fun j h => absurd h (by simp)⟩
theorem SlV.snoc {w : World} {B : Nat} {bls : List (List Int)} {xs : List Value} {x : List Int} {A' : Option Addr} {n' c' : Nat} (h : SlV w B bls xs) (hc : n' ≤ c') (hi : Ints w B A' n' x) : SlV w B (bls ++ [x]) (xs ++ [.slice A' n' c']) := by
  refine ⟨by simp [h.1], fun j hj => ?_⟩
  rw [List.length_append, List.length_singleton] at hj
  rcases Nat.lt_or_ge j bls.length with h1 | h1
  · rw [List.getElem?_append_left (by rw [h.1]; exact h1), List.getElem_append_left h1]
    exact h.2 j h1
  · obtain rfl : j = bls.length := by omega
    rw [List.getElem?_append_right (by rw [h.1]; exact Nat.le_refl _), h.1, List.getElem_append_right (Nat.le_refl _)]
    simp only [Nat.sub_self, List.getElem_cons_zero, List.getElem?_cons_zero]
    exact ⟨A', n', c', rfl, hc, hi⟩
theorem SlV.below {w w' : World} {B : Nat} {bls : List (List Int)} {xs : List Value} (h : SlV w B bls xs) (hb : Below B w w') : SlV w' B bls xs :=
  ⟨h.1, fun j hj => by obtain ⟨A', n', c', a, b, c⟩ := h.2 j hj; exact ⟨A', n', c', a, b, c.below hb⟩⟩
theorem Ints.front {w : World} {B n : Nat} {A : Option Addr} {l : List Int} (h : Ints w B A n l) (m : Nat) : Ints w B A (min n m) (l.take m) := by
  have hl := h.len
  refine ⟨by rw [List.length_take]; omega, fun hn => ?_⟩
  obtain ⟨b, o, e, hb, hc⟩ := h.at_ (by omega)
  refine ⟨b, o, e, hb, fun j hj => ?_⟩
  rw [List.length_take] at hj
  rw [List.getElem_take]
  exact hc j (by omega)

/-- A trie whose values lie below B, its blocks' row at F or beyond. -/
structure TriF (W : World) (B F : Nat) (Ai : Option Addr) (ni : Nat) (Ab : Option Addr) (nb : Nat) (T : TrV) : Prop where
  ix : Ints W B Ai ni T.ix
  len : T.bl.length = nb
  bl : 0 < nb → ∃ g, Ab = some ⟨g, 0, none⟩ ∧ F ≤ g ∧ g < W.heap.size ∧ ∀ (j : Nat) (h : j < T.bl.length), ∃ A' n' c', W.cell? ⟨g, j, none⟩ = some (.slice A' n' c') ∧ Ints W B A' n' T.bl[j] ∧ n' ≤ c'
theorem TriF.tri {W : World} {B F : Nat} {Ai : Option Addr} {ni : Nat} {Ab : Option Addr} {nb : Nat} {T : TrV} (h : TriF W B F Ai ni Ab nb T) (hB : B ≤ W.heap.size) : Tri W W.heap.size Ai ni Ab nb T := by
  refine ⟨h.ix.more hB, h.len, fun hn => ?_⟩
  obtain ⟨g, e, _, hg, hc⟩ := h.bl hn
  refine ⟨g, 0, e, hg, fun j hj => ?_⟩
  obtain ⟨A', n', c', a, b, c⟩ := hc j hj
  exact ⟨A', n', c', by rw [Nat.zero_add]; exact a, b.more hB, c⟩
theorem TriF.keep {W W' : World} {B F : Nat} {Ai : Option Addr} {ni : Nat} {Ab : Option Addr} {nb : Nat} {T : TrV} (h : TriF W B F Ai ni Ab nb T) (hs : W.heap.size ≤ W'.heap.size) (h1 : ∀ k, k < B → W'.heap[k]? = W.heap[k]?) (h2 : ∀ k, F ≤ k → k < W.heap.size → W'.heap[k]? = W.heap[k]?) : TriF W' B F Ai ni Ab nb T := by
  refine ⟨h.ix.lowB h1, h.len, fun hn => ?_⟩
  obtain ⟨g, e, hF, hg, hc⟩ := h.bl hn
  refine ⟨g, e, hF, by omega, fun j hj => ?_⟩
  obtain ⟨A', n', c', a, b, c⟩ := hc j hj
  exact ⟨A', n', c', (World.cell?_of_block (a := ⟨g, j, none⟩) (h2 g hF hg)).trans a, b.lowB h1, c⟩
theorem TriF.wider {W : World} {B F F' : Nat} {Ai : Option Addr} {ni : Nat} {Ab : Option Addr} {nb : Nat} {T : TrV} (h : TriF W B F Ai ni Ab nb T) (hF : F' ≤ F) : TriF W B F' Ai ni Ab nb T :=
  ⟨h.ix, h.len, fun hn => by obtain ⟨g, e, h1, h2, hc⟩ := h.bl hn; exact ⟨g, e, by omega, h2, hc⟩⟩
theorem triF_own {W : World} {B F : Nat} {Ai : Option Addr} {ni : Nat} {Vb : Value} {xs : List Value} {T : TrV} (hi : Ints W B Ai ni T.ix) (hr : W.ownsRow F 37 1 Vb T.bl.length xs) (hv : SlV W B T.bl xs) : ∃ Ab cb, Vb = .slice Ab T.bl.length cb ∧ T.bl.length ≤ cb ∧ TriF W B F Ai ni Ab T.bl.length T := by
  rcases hr.2 with ⟨rfl, h0⟩ | ⟨g, cap, cur, rfl, hb, hg, hc, _, _, ht⟩
  · exact ⟨none, 0, by rw [h0], by omega, hi, rfl, fun hn => absurd hn (by omega)⟩
  · refine ⟨_, _, rfl, hc, hi, rfl, fun _ => ⟨g, rfl, hb, (Array.getElem?_eq_some_iff.1 hg).1, fun j hj => ?_⟩⟩
    obtain ⟨A', n', c', e, hc', hi'⟩ := hv.2 j hj
    refine ⟨_, _, c', ?_, hi', hc'⟩
    rw [cell_blk hg]
    rw [← ht, List.getElem?_take] at e
    split at e
    · simpa using e
    · cases e
theorem trie_stored {w V : World} {b : Nat} {u0 v0 : Value} (u v : Value) (h : V.heap[b]? = some (.cells #[u0, v0] 40 (0, 0))) (hb : Below w.heap.size w V) (hw : w.heap.size ≤ b) :
    ((V.setCell ⟨b, 0, none⟩ u).setCell ⟨b, 1, none⟩ v).heap[b]? = some (.cells #[u, v] 40 (0, 0)) ∧ Below w.heap.size w ((V.setCell ⟨b, 0, none⟩ u).setCell ⟨b, 1, none⟩ v) ∧
      (∀ k, k ≠ b → ((V.setCell ⟨b, 0, none⟩ u).setCell ⟨b, 1, none⟩ v).heap[k]? = V.heap[k]?) ∧ ((V.setCell ⟨b, 0, none⟩ u).setCell ⟨b, 1, none⟩ v).heap.size = V.heap.size := by
  refine ⟨by simp [World.setCell, Array.getElem?_modify, h], (hb.setCell (p := ⟨b, 0, none⟩) hw u).setCell (p := ⟨b, 1, none⟩) hw v, fun k hk => ?_, by simp [World.setCell]⟩
  simp [World.setCell, Array.getElem?_modify, Ne.symm hk]
/-- What the growing table is. -/
def TabI (w : World) (B : Nat) (Ai : Option Addr) (ni ci : Nat) (Ab : Option Addr) (nb cb : Nat) (T : TrV) (k : Nat) (W : World) : Prop :=
  ∃ (v : Value) (xs : List Value), W.heap[w.heap.size + 2]? = some (.cells #[.slice Ai (min ni 4360) ci, v] 40 (0, 0)) ∧ W.ownsRow (w.heap.size + 3) 37 1 v k xs ∧ SlV w B (cutB (T.bl.take k)) xs ∧
    W.heap[w.heap.size]? = some (.cells #[.slice Ai ni ci, .slice Ab nb cb] 40 (0, 0)) ∧ W.heap[w.heap.size + 1]? = some (.cells #[.slice none 0 0, .slice none 0 0] 40 (0, 0)) ∧ Below w.heap.size w W ∧ w.heap.size + 3 ≤ W.heap.size

set_option maxRecDepth 100000 in
set_option maxHeartbeats 4000000 in
theorem law06_Table (B : Nat) (Ai : Option Addr) (ni ci : Nat) (Ab : Option Addr) (nb cb : Nat) (T : TrV) (w : World) (hT : Tri w B Ai ni Ab nb T) (hB : B ≤ w.heap.size) (hic : ni ≤ ci) (hnb : nb ≤ 9223372036854775807) (hni : ni ≤ 9223372036854775807) (hbs : ∀ b ∈ T.bl, b.length ≤ 9223372036854775807) :
    Calls Tryz.prog 70 #[.agg #[.slice Ai ni ci, .slice Ab nb cb]] w fun e w' => (∃ ni' Ab' nb' cb', e = .returned (.agg #[.slice Ai ni' ci, .slice Ab' nb' cb']) ∧ ni' ≤ ci ∧ nb' ≤ cb' ∧ ni' ≤ 4360 ∧ nb' ≤ 30 ∧ TriF w' B w.heap.size Ai ni' Ab' nb' (cutT T)) ∧ Below w.heap.size w w' := by
  obtain ⟨i0, hi0, hz0, hz1, hz2⟩ := info_parts ints_info
  have Hix := Lib.hid hT.ix
  have Hlen := Lib.hid hT.bl.len
  have Hbl := Lib.hid hT.bl
  have Hbs := Lib.hid hbs
  have hm1 : ((min (ni : Int) 4360)).toNat = min ni 4360 := by omega
  have hm2 : min (ni : Int) 4360 ≤ (ci : Int) := by omega
  have hm3 : 0 ≤ min (ni : Int) 4360 := by omega
  have hm4 : min ni 4360 ≤ ci := by omega
  clear hT hbs
  go_enter Tryz.func70, Tryz.ntmps70
  go_upto_region 3 with fail
  rw [show w.heap.size + 1 + 1 = w.heap.size + 2 from rfl]
  obtain ⟨W0, hW0⟩ : ∃ W0, W0 = (((w.alloc (.cells #[.slice Ai ni ci, .slice Ab nb cb] 40)).alloc (.cells #[.slice none 0 0, .slice none 0 0] 40)).alloc (.cells #[.slice Ai (min ni 4360) ci, .slice none 0 0] 40)) := ⟨_, rfl⟩
  have hb0 : Below w.heap.size w W0 := by rw [hW0]; go_grown
  have hs0 : W0.heap.size = w.heap.size + 3 := by rw [hW0]; simp
  have hI0 : TabI w B Ai ni ci Ab nb cb T 0 W0 := ⟨.slice none 0 0, [], (by rw [hW0]; simp (disch := (first | omega | (simp only [World.size_alloc]; done) | (simp only [World.size_alloc]; omega))) only [heap_laws]), World.ownsRow_nil _ _ _ _, SlV.nil, (by rw [hW0]; simp (disch := (first | omega | (simp only [World.size_alloc]; done) | (simp only [World.size_alloc]; omega))) only [heap_laws]), (by rw [hW0]; simp (disch := (first | omega | (simp only [World.size_alloc]; done) | (simp only [World.size_alloc]; omega))) only [heap_laws]), hb0, by omega⟩
  rw [← hW0]
  clear hW0 hm1 hm2 hm3
  go_loopw [4] (fun i wr => ∃ k : Nat, k ≤ nb ∧ k ≤ 30 ∧ i = .int .i64 (k : Int) ∧ TabI w B Ai ni ci Ab nb cb T k wr) (fun i _ => 30 - (RowKit.intOf i).toNat)
  case atStart => exact ⟨0, Nat.zero_le _, Nat.zero_le _, rfl, hI0⟩
  case round =>
    obtain ⟨k, hk, hk30, rfl, hI⟩ := hrel
    obtain ⟨v, xs, hzb, hown, hsl, hx1, hr1, hb, hF⟩ := hI
    by_cases hlt : k < nb ∧ k < 30
    · obtain ⟨h1, h2⟩ := hlt
      obtain ⟨bb, bo, rfl, hbb, hbc⟩ := Hbl.out.at_ (by omega)
      have hkl : k < T.bl.length := by rw [Hlen.out]; exact h1
      obtain ⟨A1, n1, cc1, hc0, hi1, hnc1⟩ := hbc k hkl
      have hbk := Hbs.out _ (List.getElem_mem hkl)
      have hl1 := hi1.len
      have hsucc := cutB_succ hkl h2
      have hsl2 := hsl.snoc (c' := cc1) (by omega) (hi1.front 260)
      rw [← hsucc] at hsl2
      have hn1 : n1 ≤ 9223372036854775807 := by omega
      clear hsucc hbk hl1 hi1 hbc hsl
      have x0 := cell_blk hx1 0
      have x1 := cell_blk hx1 1
      have y1 := (cellOf hb (show bb < w.heap.size by omega)).trans hc0
      have q1 := cell_blk hzb 1
      have Hsl2 := Lib.hid hsl2
      clear hsl2 hc0
      go_upto_region 5 with fail
      have hgbl : ∀ (V5 : World), (wr.drew.alloc (.cells #[.slice A1 (min n1 260) cc1] 37)).grownBy V5 v.ownBlock → ∀ m, m < w.heap.size + 3 → V5.heap[m]? = (wr.drew.alloc (.cells #[.slice A1 (min n1 260) cc1] 37)).heap[m]? := fun V5 hg m hm => by
        refine hg.block m (by simp; omega) (fun e => ?_)
        have := (row_data hown m e.symm).1
        omega
      have Hgb := Lib.hid hgbl
      have hown1 := hown.drew.alloc (.cells #[.slice A1 (min n1 260) cc1] 37)
      have hcs : ∀ (j : Nat) (u : Value), [Value.slice A1 (min n1 260) cc1][j]? = some u → (wr.drew.alloc (.cells #[.slice A1 (min n1 260) cc1] 37)).cell? ((⟨wr.drew.heap.size, 0, none⟩ : Addr).add j) = some u := cell_one_new wr.drew _ _
      have hbs : w.heap.size + 3 ≤ (wr.drew.alloc (.cells #[.slice A1 (min n1 260) cc1] 37)).heap.size := by simp; omega
      have Hcs := Lib.hid hcs
      have Hown := Lib.hid hown.drew
      have Hown1 := Lib.hid hown1
      have hF : w.heap.size + 3 ≤ wr.drew.heap.size := hF
      have hzb : wr.drew.heap[w.heap.size + 2]? = some (.cells #[.slice Ai (min ni 4360) ci, v] 40 (0, 0)) := hzb
      have Hb := Lib.hid hb
      clear hgbl hown hown1 hcs hb x0 q1
      refine wp_region_noPanic ?_
      refine wp_region_held_drew (S := (fun V => V.cell? ⟨w.heap.size, 1, none⟩ = some (.slice (some ⟨bb, bo, none⟩) nb cb) ∧ V.cell? ⟨bb, bo + k, none⟩ = some (.slice A1 n1 cc1))) (by kernel_rfl) ⟨x1, y1⟩ (fun hHeld => ?_)
      generalize hV1 : wr.drew = V1 at *
      have hHeld2 : (V1.alloc (.cells #[.slice A1 (min n1 260) cc1] 37)).cell? ⟨w.heap.size, 1, none⟩ = some (.slice (some ⟨bb, bo, none⟩) nb cb) ∧ (V1.alloc (.cells #[.slice A1 (min n1 260) cc1] 37)).cell? ⟨bb, bo + k, none⟩ = some (.slice A1 n1 cc1) := ⟨(World.cell?_alloc_lt _ _ _ (show w.heap.size < V1.heap.size by omega)).trans hHeld.1, (World.cell?_alloc_lt _ _ _ (show bb < V1.heap.size by omega)).trans hHeld.2⟩
      have zq := cell_blk hzb 1
      have zq2 := (World.cell?_alloc_lt V1 (.cells #[.slice A1 (min n1 260) cc1] 37) ⟨w.heap.size + 2, 1, none⟩ (show w.heap.size + 2 < V1.heap.size by omega)).trans zq
      have Hz := Lib.hid hzb
      clear hzb
      refine wpAnyH_take (i := 0) (v := .pointer (some ⟨w.heap.size + 2, 1, none⟩)) rfl (by kernel_rfl) (by kernel_rfl) (by kernel_rfl) (fun _ _ _ h => h) (.inl ⟨by rfl, fun V hV => by go_simp⟩) hHeld ?_
      try simp only [Act.put, List.getElem_toArray, List.getElem_cons_zero, List.setIfInBounds_toArray, List.set_cons_zero, List.set_cons_succ]
      refine wpAnyH_take (i := 2) (v := .pointer (some ⟨w.heap.size, 1, none⟩)) rfl (by kernel_rfl) (by kernel_rfl) (by kernel_rfl) (fun _ _ _ h => h) (.inl ⟨by rfl, fun V hV => by obtain ⟨c0, c1⟩ := hV; go_simp⟩) hHeld ?_
      try simp only [Act.put, List.getElem_toArray, List.getElem_cons_zero, List.getElem_cons_succ, List.setIfInBounds_toArray, List.set_cons_zero, List.set_cons_succ]
      refine wpAnyH_take (i := 3) (v := .slice (some ⟨bb, bo, none⟩) nb cb) rfl (by kernel_rfl) (by kernel_rfl) (by kernel_rfl) (fun _ _ _ h => h) (.inl ⟨by rfl, fun V hV => by obtain ⟨c0, c1⟩ := hV; go_simp⟩) hHeld ?_
      try simp only [Act.put, List.getElem_toArray, List.getElem_cons_zero, List.getElem_cons_succ, List.setIfInBounds_toArray, List.set_cons_zero, List.set_cons_succ]
      refine wpAnyH_take (i := 4) (v := .int .i64 (k : Int)) rfl (by kernel_rfl) (by kernel_rfl) (by kernel_rfl) (fun _ _ _ h => h) (.inl ⟨by rfl, fun V hV => by obtain ⟨c0, c1⟩ := hV; go_simp⟩) hHeld ?_
      try simp only [Act.put, List.getElem_toArray, List.getElem_cons_zero, List.getElem_cons_succ, List.setIfInBounds_toArray, List.set_cons_zero, List.set_cons_succ]
      refine wpAnyH_take (i := 5) (v := .pointer (some ⟨bb, bo + k, none⟩)) rfl (by kernel_rfl) (by kernel_rfl) (by kernel_rfl) (fun _ _ _ h => h) (.inl ⟨by rfl, fun V hV => by obtain ⟨c0, c1⟩ := hV; go_simp⟩) hHeld ?_
      try simp only [Act.put, List.getElem_toArray, List.getElem_cons_zero, List.getElem_cons_succ, List.setIfInBounds_toArray, List.set_cons_zero, List.set_cons_succ]
      refine wpAnyH_take (i := 6) (v := .slice A1 n1 cc1) rfl (by kernel_rfl) (by kernel_rfl) (by kernel_rfl) (fun _ _ _ h => h) (.inl ⟨by rfl, fun V hV => by obtain ⟨c0, c1⟩ := hV; go_simp⟩) hHeld ?_
      try simp only [Act.put, List.getElem_toArray, List.getElem_cons_zero, List.getElem_cons_succ, List.setIfInBounds_toArray, List.set_cons_zero, List.set_cons_succ]
      refine wpAnyH_take (i := 7) (v := .pointer (some ⟨w.heap.size, 1, none⟩)) rfl (by kernel_rfl) (by kernel_rfl) (by kernel_rfl) (fun _ _ _ h => h) (.inl ⟨by rfl, fun V hV => by obtain ⟨c0, c1⟩ := hV; go_simp⟩) hHeld ?_
      try simp only [Act.put, List.getElem_toArray, List.getElem_cons_zero, List.getElem_cons_succ, List.setIfInBounds_toArray, List.set_cons_zero, List.set_cons_succ]
      refine wpAnyH_take (i := 8) (v := .slice (some ⟨bb, bo, none⟩) nb cb) rfl (by kernel_rfl) (by kernel_rfl) (by kernel_rfl) (fun _ _ _ h => h) (.inl ⟨by rfl, fun V hV => by obtain ⟨c0, c1⟩ := hV; go_simp⟩) hHeld ?_
      try simp only [Act.put, List.getElem_toArray, List.getElem_cons_zero, List.getElem_cons_succ, List.setIfInBounds_toArray, List.set_cons_zero, List.set_cons_succ]
      refine wpAnyH_take (i := 9) (v := .int .i64 (k : Int)) rfl (by kernel_rfl) (by kernel_rfl) (by kernel_rfl) (fun _ _ _ h => h) (.inl ⟨by rfl, fun V hV => by obtain ⟨c0, c1⟩ := hV; go_simp⟩) hHeld ?_
      try simp only [Act.put, List.getElem_toArray, List.getElem_cons_zero, List.getElem_cons_succ, List.setIfInBounds_toArray, List.set_cons_zero, List.set_cons_succ]
      refine wpAnyH_take (i := 10) (v := .pointer (some ⟨bb, bo + k, none⟩)) rfl (by kernel_rfl) (by kernel_rfl) (by kernel_rfl) (fun _ _ _ h => h) (.inl ⟨by rfl, fun V hV => by obtain ⟨c0, c1⟩ := hV; go_simp⟩) hHeld ?_
      try simp only [Act.put, List.getElem_toArray, List.getElem_cons_zero, List.getElem_cons_succ, List.setIfInBounds_toArray, List.set_cons_zero, List.set_cons_succ]
      refine wpAnyH_take (i := 11) (v := .slice A1 n1 cc1) rfl (by kernel_rfl) (by kernel_rfl) (by kernel_rfl) (fun _ _ _ h => h) (.inl ⟨by rfl, fun V hV => by obtain ⟨c0, c1⟩ := hV; go_simp⟩) hHeld ?_
      try simp only [Act.put, List.getElem_toArray, List.getElem_cons_zero, List.getElem_cons_succ, List.setIfInBounds_toArray, List.set_cons_zero, List.set_cons_succ]
      refine wpAnyH_take (i := 12) (v := .int .i64 (n1 : Int)) rfl (by kernel_rfl) (by kernel_rfl) (by kernel_rfl) (fun _ _ _ h => h) (.inl ⟨by rfl, fun V hV => by obtain ⟨c0, c1⟩ := hV; go_simp⟩) hHeld ?_
      try simp only [Act.put, List.getElem_toArray, List.getElem_cons_zero, List.getElem_cons_succ, List.setIfInBounds_toArray, List.set_cons_zero, List.set_cons_succ]
      refine wpAnyH_take (i := 13) (v := .int .i64 (min (n1 : Int) 260)) rfl (by kernel_rfl) (by kernel_rfl) (by kernel_rfl) (fun _ _ _ h => h) (.inl ⟨by rfl, fun V hV => by obtain ⟨c0, c1⟩ := hV; go_simp⟩) hHeld ?_
      try simp only [Act.put, List.getElem_toArray, List.getElem_cons_zero, List.getElem_cons_succ, List.setIfInBounds_toArray, List.set_cons_zero, List.set_cons_succ]
      refine wpAnyH_take (i := 14) (v := .slice A1 (min n1 260) cc1) rfl (by kernel_rfl) (by kernel_rfl) (by kernel_rfl) (fun _ _ _ h => h) (.inl ⟨by rfl, fun V hV => by obtain ⟨c0, c1⟩ := hV; go_simp; rw [if_pos ⟨by omega, by omega⟩, show (min (n1 : Int) 260).toNat = min n1 260 by omega]⟩) hHeld ?_
      try simp only [Act.put, List.getElem_toArray, List.getElem_cons_zero, List.getElem_cons_succ, List.setIfInBounds_toArray, List.set_cons_zero, List.set_cons_succ]
      refine wpAnyH_ready (rs := [1, 15]) (by kernel_rfl) (by simp) ?_
      refine AllReadyH.cons rfl (fun K hK => ?_) (AllReadyH.cons rfl (fun K hK => ?_) AllReadyH.nil)
      · go_simp
        refine hK.out _ _ hHeld (fun hHeld => ?_)
        clear hK K
        try simp only [Act.put, List.getElem_toArray, List.getElem_cons_zero, List.getElem_cons_succ, List.setIfInBounds_toArray, List.set_cons_zero, List.set_cons_succ]
        refine wpAnyH_ready (rs := [15]) (by kernel_rfl) (by simp) ?_
        refine AllReadyH.cons rfl (fun K hK => ?_) AllReadyH.nil
        go_simp
        refine hK.out _ _ hHeld2 (fun hHeld => ?_)
        clear hK K
        try simp only [Act.put, List.getElem_toArray, List.getElem_cons_zero, List.getElem_cons_succ, List.setIfInBounds_toArray, List.set_cons_zero, List.set_cons_succ]
        refine wpAnyH_ready (rs := [16]) (by kernel_rfl) (by simp) ?_
        refine AllReadyH.cons rfl (fun K hK => ?_) AllReadyH.nil
        refine step_append_mine rfl _ _ 38 rfl (w.heap.size + 3) 37 i0 (.slice none 0 0) 1 24 Tryz.underlying38 hi0 hz0 hz1 hz2 rfl (by decide) v k xs (by simp [Act.eval]) Hown1.out ⟨V1.heap.size, 0, none⟩ 1 1 [.slice A1 (min n1 260) cc1] (by simp [Act.eval]) rfl Hcs.out (by simp [Value.oneCell']) (by simp only [maxLen]; omega) (by omega) hbs ?_
        intro v5 V5 hown5 hgrow
        obtain ⟨g5, cap5, rfl⟩ := ownsRow_succ hown5
        obtain ⟨k1, k2, k3, k4, k5⟩ := field_appended2 (n₀ := w.heap.size) (j := 1) Hz.out (by decide) Hown.out hF (by omega) (by omega) hown5 hgrow
        have hH5 : V5.cell? ⟨w.heap.size, 1, none⟩ = some (.slice (some ⟨bb, bo, none⟩) nb cb) ∧ V5.cell? ⟨bb, bo + k, none⟩ = some (.slice A1 n1 cc1) := ⟨(World.cell?_of_block (a := ⟨w.heap.size, 1, none⟩) (Hgb.out V5 hgrow w.heap.size (by omega))).trans hHeld.1, (World.cell?_of_block (a := ⟨bb, bo + k, none⟩) (Hgb.out V5 hgrow bb (by omega))).trans hHeld.2⟩
        have z5 := cell_blk k1 0
        have z6 := cell_blk k1 1
        have z7 := frozen_blk k1 1
        have hH6 : (V5.setCell ⟨w.heap.size + 2, 1, none⟩ (.slice (some ⟨g5, 0, none⟩) (k + 1) cap5)).cell? ⟨w.heap.size, 1, none⟩ = some (.slice (some ⟨bb, bo, none⟩) nb cb) ∧ (V5.setCell ⟨w.heap.size + 2, 1, none⟩ (.slice (some ⟨g5, 0, none⟩) (k + 1) cap5)).cell? ⟨bb, bo + k, none⟩ = some (.slice A1 n1 cc1) := ⟨(World.cell?_of_block (a := ⟨w.heap.size, 1, none⟩) (Below.heap_setCell _ _ _ _ (by show w.heap.size ≠ w.heap.size + 2; omega))).trans hH5.1, (World.cell?_of_block (a := ⟨bb, bo + k, none⟩) (Below.heap_setCell _ _ _ _ (by show bb ≠ w.heap.size + 2; omega))).trans hH5.2⟩
        have HH6 := Lib.hid hH6
        have K2 := Lib.hid k2
        have K3 := Lib.hid k3
        have K4 := Lib.hid k4
        have K5 := Lib.hid k5
        clear hH6 k1 k2 k3 k4 k5 hown5 hgrow
        refine hK.out _ _ hH5 (fun hHeld => ?_)
        clear hK K
        try simp only [Act.put, List.getElem_toArray, List.getElem_cons_zero, List.getElem_cons_succ, List.setIfInBounds_toArray, List.set_cons_zero, List.set_cons_succ]
        refine wpAnyH_take (i := 17) (v := .pointer (some ⟨w.heap.size + 2, 1, none⟩)) rfl (by kernel_rfl) (by kernel_rfl) (by kernel_rfl) (fun _ _ _ h => h) (.inl ⟨by rfl, fun V hV => by go_simp⟩) hHeld ?_
        try simp only [Act.put, List.getElem_toArray, List.getElem_cons_zero, List.getElem_cons_succ, List.setIfInBounds_toArray, List.set_cons_zero, List.set_cons_succ]
        refine wpAnyH_ready (rs := [18]) (by kernel_rfl) (by simp) ?_
        refine AllReadyH.cons rfl (fun K hK => ?_) AllReadyH.nil
        go_simp
        refine hK.out _ _ HH6.out (fun hHeld => ?_)
        clear hK K
        try simp only [Act.put, List.getElem_toArray, List.getElem_cons_zero, List.getElem_cons_succ, List.setIfInBounds_toArray, List.set_cons_zero, List.set_cons_succ]
        refine wpAnyH_done (by kernel_rfl) ?_ _
        refine NoPanic.normal ?_
        clear hHeld
        subst hV1
        have hx5 := (K5.out w.heap.size (by omega) (by omega)).trans hx1
        have hr5 := (K5.out (w.heap.size + 1) (by omega) (by omega)).trans hr1
        have hs5 := K4.out.size
        have hb5 := Hb.out.drew.trans K4.out
        go_wp2_with fail
        go_roundw
        case rel => exact ⟨k + 1, by omega, by omega, by go_num, ⟨_, _, K2.out, K3.out, Hsl2.out, hx5, hr5, hb5, by omega⟩⟩
        case measure => simp [RowKit.intOf]; omega
      · go_simp
        refine hK.out _ _ hHeld2 (fun hHeld => ?_)
        clear hK K
        try simp only [Act.put, List.getElem_toArray, List.getElem_cons_zero, List.getElem_cons_succ, List.setIfInBounds_toArray, List.set_cons_zero, List.set_cons_succ]
        refine wpAnyH_ready (rs := [1]) (by kernel_rfl) (by simp) ?_
        refine AllReadyH.cons rfl (fun K hK => ?_) AllReadyH.nil
        go_simp
        refine hK.out _ _ hHeld (fun hHeld => ?_)
        clear hK K
        try simp only [Act.put, List.getElem_toArray, List.getElem_cons_zero, List.getElem_cons_succ, List.setIfInBounds_toArray, List.set_cons_zero, List.set_cons_succ]
        refine wpAnyH_ready (rs := [16]) (by kernel_rfl) (by simp) ?_
        refine AllReadyH.cons rfl (fun K hK => ?_) AllReadyH.nil
        refine step_append_mine rfl _ _ 38 rfl (w.heap.size + 3) 37 i0 (.slice none 0 0) 1 24 Tryz.underlying38 hi0 hz0 hz1 hz2 rfl (by decide) v k xs (by simp [Act.eval]) Hown1.out ⟨V1.heap.size, 0, none⟩ 1 1 [.slice A1 (min n1 260) cc1] (by simp [Act.eval]) rfl Hcs.out (by simp [Value.oneCell']) (by simp only [maxLen]; omega) (by omega) hbs ?_
        intro v5 V5 hown5 hgrow
        obtain ⟨g5, cap5, rfl⟩ := ownsRow_succ hown5
        obtain ⟨k1, k2, k3, k4, k5⟩ := field_appended2 (n₀ := w.heap.size) (j := 1) Hz.out (by decide) Hown.out hF (by omega) (by omega) hown5 hgrow
        have hH5 : V5.cell? ⟨w.heap.size, 1, none⟩ = some (.slice (some ⟨bb, bo, none⟩) nb cb) ∧ V5.cell? ⟨bb, bo + k, none⟩ = some (.slice A1 n1 cc1) := ⟨(World.cell?_of_block (a := ⟨w.heap.size, 1, none⟩) (Hgb.out V5 hgrow w.heap.size (by omega))).trans hHeld.1, (World.cell?_of_block (a := ⟨bb, bo + k, none⟩) (Hgb.out V5 hgrow bb (by omega))).trans hHeld.2⟩
        have z5 := cell_blk k1 0
        have z6 := cell_blk k1 1
        have z7 := frozen_blk k1 1
        have hH6 : (V5.setCell ⟨w.heap.size + 2, 1, none⟩ (.slice (some ⟨g5, 0, none⟩) (k + 1) cap5)).cell? ⟨w.heap.size, 1, none⟩ = some (.slice (some ⟨bb, bo, none⟩) nb cb) ∧ (V5.setCell ⟨w.heap.size + 2, 1, none⟩ (.slice (some ⟨g5, 0, none⟩) (k + 1) cap5)).cell? ⟨bb, bo + k, none⟩ = some (.slice A1 n1 cc1) := ⟨(World.cell?_of_block (a := ⟨w.heap.size, 1, none⟩) (Below.heap_setCell _ _ _ _ (by show w.heap.size ≠ w.heap.size + 2; omega))).trans hH5.1, (World.cell?_of_block (a := ⟨bb, bo + k, none⟩) (Below.heap_setCell _ _ _ _ (by show bb ≠ w.heap.size + 2; omega))).trans hH5.2⟩
        have HH6 := Lib.hid hH6
        have K2 := Lib.hid k2
        have K3 := Lib.hid k3
        have K4 := Lib.hid k4
        have K5 := Lib.hid k5
        clear hH6 k1 k2 k3 k4 k5 hown5 hgrow
        refine hK.out _ _ hH5 (fun hHeld => ?_)
        clear hK K
        try simp only [Act.put, List.getElem_toArray, List.getElem_cons_zero, List.getElem_cons_succ, List.setIfInBounds_toArray, List.set_cons_zero, List.set_cons_succ]
        refine wpAnyH_take (i := 17) (v := .pointer (some ⟨w.heap.size + 2, 1, none⟩)) rfl (by kernel_rfl) (by kernel_rfl) (by kernel_rfl) (fun _ _ _ h => h) (.inl ⟨by rfl, fun V hV => by go_simp⟩) hHeld ?_
        try simp only [Act.put, List.getElem_toArray, List.getElem_cons_zero, List.getElem_cons_succ, List.setIfInBounds_toArray, List.set_cons_zero, List.set_cons_succ]
        refine wpAnyH_ready (rs := [18]) (by kernel_rfl) (by simp) ?_
        refine AllReadyH.cons rfl (fun K hK => ?_) AllReadyH.nil
        go_simp
        refine hK.out _ _ HH6.out (fun hHeld => ?_)
        clear hK K
        try simp only [Act.put, List.getElem_toArray, List.getElem_cons_zero, List.getElem_cons_succ, List.setIfInBounds_toArray, List.set_cons_zero, List.set_cons_succ]
        refine wpAnyH_done (by kernel_rfl) ?_ _
        refine NoPanic.normal ?_
        clear hHeld
        subst hV1
        have hx5 := (K5.out w.heap.size (by omega) (by omega)).trans hx1
        have hr5 := (K5.out (w.heap.size + 1) (by omega) (by omega)).trans hr1
        have hs5 := K4.out.size
        have hb5 := Hb.out.drew.trans K4.out
        go_wp2_with fail
        go_roundw
        case rel => exact ⟨k + 1, by omega, by omega, by go_num, ⟨_, _, K2.out, K3.out, Hsl2.out, hx5, hr5, hb5, by omega⟩⟩
        case measure => simp [RowKit.intOf]; omega
    · have hall : cutB (T.bl.take k) = cutB T.bl := by
        unfold cutB
        rw [List.take_take]
        rcases Nat.lt_or_ge k 30 with h | h
        · have : k = nb := by omega
          rw [Nat.min_eq_right (by omega), List.take_of_length_le (by rw [Hlen.out]; omega), List.take_of_length_le (by rw [Hlen.out]; omega)]
        · rw [Nat.min_eq_left (by omega)]
      have hcl : (cutB (T.bl.take k)).length = k := by
        unfold cutB
        rw [List.length_map, List.length_take, List.length_take, Hlen.out]
        omega
      have hcase : nb ≤ k ∨ (k < nb ∧ 30 ≤ k) := by omega
      rw [hall] at hsl hcl
      have h30 := (cutB_len T.bl).1
      rw [← hcl] at hown
      obtain ⟨Ab', cb', rfl, hcb, hTF⟩ := triF_own (T := cutT T) (Ai := Ai) (ni := min ni 4360) (((Hix.out.front 4360).below (hb.mono hB))) hown (hsl.below (hb.mono hB))
      obtain ⟨g1, g2, g3, g4⟩ := trie_stored (.slice Ai (min ni 4360) ci) (.slice Ab' (cutB T.bl).length cb') hr1 hb (Nat.le_succ _)
      have HTF := Lib.hid (TriF.wider (hTF.keep (by rw [g4]; exact Nat.le_refl _) (fun k hk => g3 k (by omega)) (fun k hk _ => g3 k (by omega))) (show w.heap.size ≤ w.heap.size + 3 by omega))
      have G1 := Lib.hid g1
      have G2 := Lib.hid g2
      have x0 := cell_blk hx1 0
      have x1 := cell_blk hx1 1
      obtain ⟨z0, z1⟩ := cells2 hzb
      obtain ⟨r0, r1⟩ := cells2 hr1
      have s0 := frozen_blk hr1 0
      have s1 := frozen_blk hr1 1
      have hcb : (cutB T.bl).length ≤ cb' := hcb
      change wr.heap[w.heap.size + 2]? = some (.cells #[.slice Ai (min ni 4360) ci, .slice Ab' (cutB T.bl).length cb'] 40 (0, 0)) at hzb
      clear hlt hall hown hcl hTF hsl g1 g2 g3 g4 hI0
      rcases hcase with h | ⟨h, h'⟩
      · skip
        go_wp2_with fail
        obtain ⟨j0, j1⟩ := cells2 G1.out
        (try simp only [Exit.inBlock, Exit.then])
        refine bodyPost_ret (v := .agg #[.slice Ai (min ni 4360) ci, .slice Ab' (cutB T.bl).length cb']) (results_cell2 rfl rfl j0 j1) rfl ?_
        exact ⟨⟨_, _, _, _, rfl, hm4, hcb, by omega, h30, HTF.out⟩, G2.out⟩
      · skip
        go_wp2_with fail
        obtain ⟨j0, j1⟩ := cells2 G1.out
        (try simp only [Exit.inBlock, Exit.then])
        refine bodyPost_ret (v := .agg #[.slice Ai (min ni 4360) ci, .slice Ab' (cutB T.bl).length cb']) (results_cell2 rfl rfl j0 j1) rfl ?_
        exact ⟨⟨_, _, _, _, rfl, hm4, hcb, by omega, h30, HTF.out⟩, G2.out⟩
end Go.Vir



/- The walk: viramalaw15.Table. -/
namespace Go.Vir
open Go Go.RowKit Go.Proofs
attribute [local go_sem] Oper.semAt_some

set_option maxRecDepth 100000 in
set_option maxHeartbeats 4000000 in
theorem law15_Table (B : Nat) (Ai : Option Addr) (ni ci : Nat) (Ab : Option Addr) (nb cb : Nat) (wd : Bool) (T : TrV) (w : World) (hT : Tri w B Ai ni Ab nb T) (hB : B ≤ w.heap.size) (hic : ni ≤ ci) (hnb : nb ≤ 9223372036854775807) (hni : ni ≤ 9223372036854775807) (hbs : ∀ b ∈ T.bl, b.length ≤ 9223372036854775807) :
    Calls Tryz.prog 35 #[.agg #[.slice Ai ni ci, .slice Ab nb cb, .bool wd]] w fun e w' => (∃ ni' Ab' nb' cb', e = .returned (.agg #[.slice Ai ni' ci, .slice Ab' nb' cb', .bool wd]) ∧ ni' ≤ ci ∧ nb' ≤ cb' ∧ ni' ≤ 4360 ∧ nb' ≤ 30 ∧ TriF w' B w.heap.size Ai ni' Ab' nb' (cutT T)) ∧ Below w.heap.size w w' := by
  obtain ⟨W0, hW0⟩ : ∃ W0, W0 = (w.alloc (.cells #[.slice Ai ni ci, .slice Ab nb cb, .bool wd] 42)).alloc (.cells #[.slice none 0 0, .slice none 0 0, .bool false] 42) := ⟨_, rfl⟩
  have hbw0 : Below w.heap.size w W0 := by rw [hW0]; go_grown
  have hx0 : W0.heap[w.heap.size]? = some (.cells #[.slice Ai ni ci, .slice Ab nb cb, .bool wd] 42 (0, 0)) := (by rw [hW0]; simp (disch := (first | omega | (simp only [World.size_alloc]; done) | (simp only [World.size_alloc]; omega))) only [heap_laws])
  have hz0 : W0.heap[w.heap.size + 1]? = some (.cells #[.slice none 0 0, .slice none 0 0, .bool false] 42 (0, 0)) := (by rw [hW0]; simp (disch := (first | omega | (simp only [World.size_alloc]; done) | (simp only [World.size_alloc]; omega))) only [heap_laws])
  have hsz : W0.heap.size = w.heap.size + 2 := by rw [hW0]; simp
  have Htab := Lib.hid (fun (W : World) (hW : Below w.heap.size w W) => law06_Table B Ai ni ci Ab nb cb T W (hT.below (hW.mono hB)) (by have := hW.size; omega) hic hnb hni hbs)
  have e0 := cell_blk hx0 0
  have e1 := cell_blk hx0 1
  have e2 := cell_blk hx0 2
  have Hbw0 := Lib.hid hbw0
  have Hx0 := Lib.hid hx0
  have Hz0 := Lib.hid hz0
  clear hT hbs hbw0 hx0 hz0
  go_enter Tryz.func35, Tryz.ntmps35
  go_upto_region 1 with fail
  rw [← hW0]
  clear hW0
  refine wp_region_noPanic ?_
  refine wp_region_held_drew (S := (fun V => V.cell? ⟨w.heap.size, 0, none⟩ = some (.slice Ai ni ci) ∧ V.cell? ⟨w.heap.size, 1, none⟩ = some (.slice Ab nb cb) ∧ V.cell? ⟨w.heap.size, 2, none⟩ = some (.bool wd))) (by kernel_rfl) ⟨e0, e1, e2⟩ (fun hHeld => ?_)
  clear e0 e1 e2
  refine wpAnyH_take (i := 0) (v := .pointer (some ⟨w.heap.size, 0, none⟩)) rfl (by kernel_rfl) (by kernel_rfl) (by kernel_rfl) (fun _ _ _ h => h) (.inl ⟨by rfl, fun V hV => by obtain ⟨c0, c1, c2⟩ := hV; go_simp⟩) hHeld ?_
  try simp only [Act.put, List.getElem_toArray, List.getElem_cons_zero, List.setIfInBounds_toArray, List.set_cons_zero, List.set_cons_succ]
  refine wpAnyH_take (i := 1) (v := .agg #[.slice Ai ni ci, .slice Ab nb cb]) rfl (by kernel_rfl) (by kernel_rfl) (by kernel_rfl) (fun _ _ _ h => h) (.inl ⟨by rfl, fun V hV => by obtain ⟨c0, c1, c2⟩ := hV; go_simp⟩) hHeld ?_
  try simp only [Act.put, List.getElem_toArray, List.getElem_cons_zero, List.getElem_cons_succ, List.setIfInBounds_toArray, List.set_cons_zero, List.set_cons_succ]
  refine wpAnyH_take (i := 3) (v := .pointer (some ⟨w.heap.size, 2, none⟩)) rfl (by kernel_rfl) (by kernel_rfl) (by kernel_rfl) (fun _ _ _ h => h) (.inl ⟨by rfl, fun V hV => by obtain ⟨c0, c1, c2⟩ := hV; go_simp⟩) hHeld ?_
  try simp only [Act.put, List.getElem_toArray, List.getElem_cons_zero, List.getElem_cons_succ, List.setIfInBounds_toArray, List.set_cons_zero, List.set_cons_succ]
  refine wpAnyH_take (i := 4) (v := .bool wd) rfl (by kernel_rfl) (by kernel_rfl) (by kernel_rfl) (fun _ _ _ h => h) (.inl ⟨by rfl, fun V hV => by obtain ⟨c0, c1, c2⟩ := hV; go_simp⟩) hHeld ?_
  try simp only [Act.put, List.getElem_toArray, List.getElem_cons_zero, List.getElem_cons_succ, List.setIfInBounds_toArray, List.set_cons_zero, List.set_cons_succ]
  refine wpAnyH_ready (rs := [2]) (by kernel_rfl) (by simp) ?_
  refine AllReadyH.cons rfl (fun K hK => ?_) AllReadyH.nil
  go_simp
  refine (Htab.out _ Hbw0.out.drew).mono ?_
  rintro e w3 ⟨⟨n3, A3, m3, c3, rfl, hi3, hm3, hn3, hq3, hT3⟩, hb3⟩
  have hb03 : Below W0.heap.size W0 w3 := (Below.refl _ _).drew.trans (hb3.mono (by simp))
  have hbw3 : Below w.heap.size w w3 := Hbw0.out.trans (hb03.mono Hbw0.out.size)
  have hx3 := (hb03.block w.heap.size (by omega)).trans Hx0.out
  have hz3 := (hb03.block (w.heap.size + 1) (by omega)).trans Hz0.out
  obtain ⟨g1, g2, g3, g4⟩ := widths_stored (.slice Ai n3 ci) (.slice A3 m3 c3) (.bool wd) hz3 hbw3 (Nat.le_succ _)
  have hs3 := hb03.size
  have hkf : ∀ k, W0.drew.heap.size ≤ k → k ≠ w.heap.size + 1 := fun k hk => by
    have : W0.heap.size ≤ k := hk
    omega
  have hT4 := (hT3.keep (by rw [g4]; exact Nat.le_refl _) (fun k hk => g3 k (by omega)) (fun k hk _ => g3 k (hkf k hk)))
  have hx4 := (g3 w.heap.size (by omega)).trans hx3
  have hH3 : w3.cell? ⟨w.heap.size, 0, none⟩ = some (.slice Ai ni ci) ∧ w3.cell? ⟨w.heap.size, 1, none⟩ = some (.slice Ab nb cb) ∧ w3.cell? ⟨w.heap.size, 2, none⟩ = some (.bool wd) := ⟨cell_blk hx3 0, cell_blk hx3 1, cell_blk hx3 2⟩
  have hH4 := And.intro (cell_blk hx4 0) (And.intro (cell_blk hx4 1) (cell_blk hx4 2))
  obtain ⟨z0, z1, z2⟩ := cells3 hz3
  have s0 := frozen_blk hz3 0
  have s1 := frozen_blk hz3 1
  have s2 := frozen_blk hz3 2
  have HT4 := Lib.hid (TriF.wider hT4 (show w.heap.size ≤ W0.drew.heap.size by show w.heap.size ≤ W0.heap.size; omega))
  have HH4 := Lib.hid hH4
  have G1 := Lib.hid g1
  have G2 := Lib.hid g2
  clear hT4 hT3 hH4 g1 g2 g3 g4 hx4 hx3 hz3 hbw3 hb03 hb3
  refine hK.out _ _ hH3 (fun hHeld => ?_)
  clear hK K
  try simp only [Act.put, List.getElem_toArray, List.getElem_cons_zero, List.getElem_cons_succ, List.setIfInBounds_toArray, List.set_cons_zero, List.set_cons_succ]
  refine wpAnyH_take (i := 5) (v := .agg #[.slice Ai n3 ci, .slice A3 m3 c3, .bool wd]) rfl (by kernel_rfl) (by kernel_rfl) (by kernel_rfl) (fun _ _ _ h => h) (.inl ⟨by rfl, fun V hV => by go_simp⟩) hHeld ?_
  try simp only [Act.put, List.getElem_toArray, List.getElem_cons_zero, List.getElem_cons_succ, List.setIfInBounds_toArray, List.set_cons_zero, List.set_cons_succ]
  refine wpAnyH_ready (rs := [6]) (by kernel_rfl) (by simp) ?_
  refine AllReadyH.cons rfl (fun K hK => ?_) AllReadyH.nil
  go_simp
  refine hK.out _ _ HH4.out (fun hHeld => ?_)
  clear hK K
  try simp only [Act.put, List.getElem_toArray, List.getElem_cons_zero, List.getElem_cons_succ, List.setIfInBounds_toArray, List.set_cons_zero, List.set_cons_succ]
  refine wpAnyH_done (by kernel_rfl) ?_ _
  refine NoPanic.normal ?_
  go_wp2_with fail
  obtain ⟨j0, j1, j2⟩ := cells3 G1.out
  (try simp only [Exit.inBlock, Exit.then])
  exact bodyPost_ret (v := .agg #[.slice Ai n3 ci, .slice A3 m3 c3, .bool wd]) (results_widths rfl rfl j0 j1 j2) rfl ⟨⟨_, _, _, _, rfl, hi3, hm3, hn3, hq3, HT4.out⟩, G2.out⟩
end Go.Vir



/- The walks of width: Columns. -/
namespace Go.Vir
open Go Go.RowKit Go.Proofs
attribute [local go_sem] Oper.semAt_some

theorem chk_all {T : TrV} {cs : List (List UInt8)} (h : chkW T cs = 0) : ∀ x ∈ cs, (scalarsU x).isSome = true := by
  unfold chkW at h
  split at h
  · split at h
    · rename_i h2; exact fun x hx => List.all_eq_true.1 h2 x hx
    · cases h
  · cases h
theorem colW_bad {T : TrV} {wd : Bool} {cs : List (List UInt8)} {k : Int} (h : chkW T cs = k) (hk : k ≠ 0) : colW T wd cs = (0, k) := by
  unfold colW; rw [h, if_neg hk]
theorem colW_ok {T : TrV} {wd : Bool} {cs : List (List UInt8)} (h : chkW T cs = 0) : colW T wd cs = (sumW T wd cs, 0) := by
  unfold colW; rw [if_pos h]

set_option maxRecDepth 100000 in
set_option maxHeartbeats 4000000 in
theorem width_Columns (Ai : Option Addr) (ni ci : Nat) (Ab : Option Addr) (nb cb : Nat) (wd : Bool) (T : TrV) (A : Option Addr) (n c : Nat) (cs : List (List UInt8)) (p q u p2 q2 : Addr) (w : World) (hT : Tri w w.heap.size Ai ni Ab nb T) (hi : ni ≤ 1000000) (hnb : nb ≤ 1000000) (hbs : ∀ b ∈ T.bl, b.length ≤ 1000000)
    (hx : Strs w w.heap.size A n cs) (hn : n ≤ 1000000) (hcs : ∀ x ∈ cs, x.length ≤ 1000000) (hg : WidG w p q u) (hs : ScaG w p2 q2) :
    Calls Tryz.prog 40 #[.agg #[.slice Ai ni ci, .slice Ab nb cb, .bool wd], .slice A n c] w fun e w' => e = .returned (.tuple #[.int .i64 (colW T wd cs).1, .int .i64 (colW T wd cs).2]) ∧ Below w.heap.size w w' := by
  have hbw : Below w.heap.size w (w.alloc (.cells #[.slice Ai ni ci, .slice Ab nb cb, .bool wd] 42)) := by go_grown
  have hop := width_open Ai ni ci Ab nb cb wd T A n c cs p q u p2 q2 (w.alloc (.cells #[.slice Ai ni ci, .slice Ab nb cb, .bool wd] 42)) ((hT.below hbw).more hbw.size) hi hnb hbs ((hx.below hbw).more hbw.size) hn hcs (hg.below hbw) (hs.below hbw)
  rw [World.size_alloc] at hop
  have Hop := Lib.hid hop
  have Hbw := Lib.hid hbw
  have Hg := Lib.hid hg
  have Hx := Lib.hid hx
  have Hcs := Lib.hid hcs
  clear hop hbw hg hs hT hx hcs
  refine (callsIn_wide (n := 0)).1 ?_
  refine callsIn_of_wp_marks Tryz.func40 rfl trivial ?_ rfl
  simp only [Tryz.ntmps40, List.size_toArray, List.length_cons, List.length_nil, Nat.reduceAdd, Nat.reduceSub, Array.replicate_succ, Array.replicate_zero, List.push_toArray, List.append_toArray, List.nil_append, List.cons_append]
  refine wpIn_wide.2 ?_
  go_wp2_with fail
  refine Hop.out.mono ?_
  rintro e w1 ⟨h1, hb1⟩
  have hbf := Hbw.out.trans (hb1.mono (by simp))
  rcases h1 with ⟨hc, rfl⟩ | ⟨hc, rfl⟩ | ⟨hc, rb, m, rfl, hru⟩
  · have Ho := Lib.hid (colW_bad (wd := wd) hc (by omega))
    have Htd := Lib.hid (width_told_width p q u w1 (Hg.out.below hbf))
    clear hc
    go_wp2_with fail
    refine Htd.out.mono ?_
    rintro e w2 ⟨rfl, rfl⟩
    go_wp2_with fail
    exact ⟨_, results_tmp2 rfl _ _ _, by rw [Ho.out]; rfl, hbf⟩
  · have Ho := Lib.hid (colW_bad (wd := wd) hc (by omega))
    have Htd := Lib.hid (width_told_utf p q u w1 (Hg.out.below hbf))
    clear hc
    go_wp2_with fail
    refine Htd.out.mono ?_
    rintro e w2 ⟨rfl, rfl⟩
    go_wp2_with fail
    exact ⟨_, results_tmp2 rfl _ _ _, by rw [Ho.out]; rfl, hbf⟩
  · have Ho := Lib.hid (colW_ok (wd := wd) hc)
    have hall := chk_all hc
    have hbx := hru.bm
    have hbr := hru.br
    have hne : rb ≠ m := by
      rintro rfl
      obtain ⟨es, ck, kvs, g1, _⟩ := hru.mp
      have := hru.bx
      rw [g1] at this
      cases this
    have hml : m < w1.heap.size := by obtain ⟨es, ck, kvs, g1, _⟩ := hru.mp; exact (Array.getElem?_eq_some_iff.1 g1).1
    have hrl : rb < w1.heap.size := (Array.getElem?_eq_some_iff.1 hru.bx).1
    have hs1 : w.heap.size + 1 ≤ w1.heap.size := by have := hb1.size; simpa using this
    have Hru := Lib.hid hru
    clear hc hru
    go_wp2_with (go_at_call 74; refine (sums_make _ _ _ _ _).mono ?_; rintro e w4 ⟨rfl, rfl⟩)
    refine wp_gen ?_
    intro W2 hW2
    have hsz : W2.heap.size = w1.heap.size + 3 := by simp [hW2]
    have hb2 : Below w1.heap.size w1 W2 := by rw [hW2]; go_grown
    have d0 : W2.heap[w1.heap.size]? = some (.cells #[.int .i64 0] 3 (0, 0)) := (by rw [hW2]; simp (disch := (first | omega | (simp only [World.size_alloc]; done) | (simp only [World.size_alloc]; omega))) only [heap_laws])
    have d1 : W2.heap[w1.heap.size + 1]? = some (.cells #[.pointer (some ⟨rb, 0, none⟩)] 91 (0, 0)) := (by rw [hW2]; simp (disch := (first | omega | (simp only [World.size_alloc]; done) | (simp only [World.size_alloc]; omega))) only [heap_laws])
    have d2 : W2.heap[w1.heap.size + 2]? = some (.cells #[.slice A n c] 22 (0, 0)) := (by rw [hW2]; simp (disch := (first | omega | (simp only [World.size_alloc]; done) | (simp only [World.size_alloc]; omega))) only [heap_laws])
    clear hW2
    have hbW : Below w.heap.size w W2 := hbf.trans (hb2.mono hbf.size)
    have hit := sums_iter (w.heap.size + 1) (w1.heap.size + 2) (w1.heap.size + 1) rb m Ai ni ci Ab nb cb wd T A n c cs W2 (by omega) (by omega) (by omega) (by omega) (by omega) (Hru.out.keep hb2) d2 d1 ((Hx.out.below hbW).more (by omega)) hn (fun x hx => ⟨Hcs.out x hx, hall x hx⟩)
    have Hit := Lib.hid hit
    have HbW := Lib.hid hbW
    clear hit hbW hall
    refine (wpIn_wide (n := 0)).1 ?_
    refine range_law (a₁ := ?a1) rfl (enters_of Tryz.func113 (by kernel_rfl) rfl) Hit.out (Below.refl _ _)
      (fun k hk => ?hO) (by omega) (fun _ => rfl)
      (fun i W => Below w.heap.size w W ∧ W.heap[w1.heap.size]? = some (.cells #[.int .i64 (sumW T wd (cs.take i))] 3 (0, 0)))
      (fun i c W => False)
      (fun i X Y hi hm => by
        obtain ⟨h1, h2⟩ := hi
        exact ⟨Below.moves h1 hm (by omega) (fun k hk => by rcases hk with (rfl | rfl) | (rfl | rfl) <;> omega), hm.cells h2 (by rintro ((h | h) | (h | h)) <;> omega)⟩)
      (fun i c X Y hi hm => hi)
      ⟨HbW.out, d0⟩ ?assign ?body ?done ?stop
    case hO => rcases hk with (rfl | rfl) | (rfl | rfl) <;> omega
    case assign =>
      intro l i W K hK
      gi_wp2
      exact hK
    case body =>
      rintro lp i W hi ⟨hbW, hv⟩ hsW
      have e0 := cell_blk hv 0
      have f0 := frozen_blk hv 0
      generalize hz : sumW T wd (cs.take (i + 1)) = z at *
      have Hz := Lib.hid hz
      clear hz
      have hst := setCell_blk hv 0 (.int .i64 z)
      have Hst := Lib.hid hst
      clear hst hv
      gi_wp2
      exact ⟨Keeps.setCell W (p := ⟨w1.heap.size, 0, none⟩) (by rintro ((h | h) | (h | h)) <;> (have h : w1.heap.size = _ := h; omega)) (by show w.heap.size + 1 ≤ w1.heap.size; omega) _, hbW.setCell (p := ⟨w1.heap.size, 0, none⟩) (by show w.heap.size ≤ w1.heap.size; omega) _, by rw [Hz.out]; simpa using Hst.out⟩
    case done =>
      rintro D W hD ⟨hbW, hv⟩ hK
      have e0 := cell_blk hv 0
      rw [List.take_of_length_le (by rw [← Hx.out.len]; exact Nat.le_refl _)] at e0
      clear hv
      go_wp2
      refine ⟨by simp, .inl ⟨_, _, rfl, run_takeDeferred hK, ?_⟩⟩
      refine ⟨_, results_tmp2 rfl _ _ _, by rw [Ho.out]; rfl, ?_⟩
      exact hbW.trans ⟨rfl, rfl, rfl, by simp, fun k hk => World.putObj_heap_other (by omega)⟩
    case stop =>
      rintro D i c W hD hi h hK
      exact h.elim
end Go.Vir


/- The walks of width: Fit. -/
namespace Go.Vir
open Go Go.RowKit Go.Proofs
attribute [local go_sem] Oper.semAt_some

theorem sumW_mono (T : TrV) (wd : Bool) (cs : List (List UInt8)) {i j : Nat} (h : i ≤ j) : sumW T wd (cs.take i) ≤ sumW T wd (cs.take j) := by
  obtain ⟨k, rfl⟩ := Nat.exists_eq_add_of_le h
  rw [List.take_add, sumW_app]
  have := (sumW_ends T wd ((cs.drop i).take k)).1
  omega
theorem fit_next {T : TrV} {wd : Bool} {n : Int} {cs : List (List UInt8)} {i : Nat} (h : i ≤ fitW T wd n cs 0) (hi : i < cs.length) (hs : sumW T wd (cs.take (i + 1)) ≤ n) : i + 1 ≤ fitW T wd n cs 0 := by
  rcases Nat.lt_or_ge i (fitW T wd n cs 0) with h1 | h1
  · exact h1
  · have e : fitW T wd n cs 0 = i := by omega
    have := (fitW_law T wd n cs 0 (by omega)).2
    rw [e] at this
    omega
theorem fit_stop {T : TrV} {wd : Bool} {n : Int} {cs : List (List UInt8)} {i : Nat} (h : i ≤ fitW T wd n cs 0) (hs : n < sumW T wd (cs.take (i + 1))) : fitW T wd n cs 0 = i := by
  rcases Nat.lt_or_ge i (fitW T wd n cs 0) with h1 | h1
  · rcases Int.lt_or_le n 0 with hn | hn
    · rw [fitW_neg T wd cs hn] at h1; omega
    · have h2 := (fitW_law T wd n cs 0 (by omega)).1 hn
      have h3 := sumW_mono T wd cs (show i + 1 ≤ fitW T wd n cs 0 by omega)
      omega
  · omega
theorem fitsW_bad {T : TrV} {wd : Bool} {cs : List (List UInt8)} {n k : Int} (h : chkW T cs = k) (hk : k ≠ 0) : fitsW T wd cs n = (0, k) := by
  unfold fitsW; rw [h, if_neg hk]
theorem fitsW_ok {T : TrV} {wd : Bool} {cs : List (List UInt8)} {n : Int} (h : chkW T cs = 0) : fitsW T wd cs n = (((fitW T wd n cs 0 : Nat) : Int), 0) := by
  unfold fitsW; rw [if_pos h]

set_option maxRecDepth 100000 in
set_option maxHeartbeats 4000000 in
theorem width_Fit (Ai : Option Addr) (ni ci : Nat) (Ab : Option Addr) (nb cb : Nat) (wd : Bool) (T : TrV) (A : Option Addr) (n c : Nat) (mx : Int) (cs : List (List UInt8)) (p q u p2 q2 : Addr) (w : World) (hT : Tri w w.heap.size Ai ni Ab nb T) (hi : ni ≤ 1000000) (hnb : nb ≤ 1000000) (hbs : ∀ b ∈ T.bl, b.length ≤ 1000000)
    (hx : Strs w w.heap.size A n cs) (hn : n ≤ 1000000) (hcs : ∀ x ∈ cs, x.length ≤ 1000000) (hg : WidG w p q u) (hs : ScaG w p2 q2) :
    Calls Tryz.prog 42 #[.agg #[.slice Ai ni ci, .slice Ab nb cb, .bool wd], .slice A n c, .int .i64 mx] w fun e w' => e = .returned (.tuple #[.int .i64 (fitsW T wd cs mx).1, .int .i64 (fitsW T wd cs mx).2]) ∧ Below w.heap.size w w' := by
  have hbw : Below w.heap.size w ((w.alloc (.cells #[.slice Ai ni ci, .slice Ab nb cb, .bool wd] 42)).alloc (.cells #[.int .i64 mx] 3)) := by go_grown
  have hop := width_open Ai ni ci Ab nb cb wd T A n c cs p q u p2 q2 ((w.alloc (.cells #[.slice Ai ni ci, .slice Ab nb cb, .bool wd] 42)).alloc (.cells #[.int .i64 mx] 3)) ((hT.below hbw).more hbw.size) hi hnb hbs ((hx.below hbw).more hbw.size) hn hcs (hg.below hbw) (hs.below hbw)
  rw [World.size_alloc, World.size_alloc] at hop
  have Hop := Lib.hid hop
  have Hbw := Lib.hid hbw
  have Hg := Lib.hid hg
  have Hx := Lib.hid hx
  have Hcs := Lib.hid hcs
  clear hop hbw hg hs hT hx hcs
  refine (callsIn_wide (n := 0)).1 ?_
  refine callsIn_of_wp_marks Tryz.func42 rfl trivial ?_ rfl
  simp only [Tryz.ntmps42, List.size_toArray, List.length_cons, List.length_nil, Nat.reduceAdd, Nat.reduceSub, Array.replicate_succ, Array.replicate_zero, List.push_toArray, List.append_toArray, List.nil_append, List.cons_append]
  refine wpIn_wide.2 ?_
  go_wp2_with fail
  refine Hop.out.mono ?_
  rintro e w1 ⟨h1, hb1⟩
  have hbf := Hbw.out.trans (hb1.mono (by omega))
  rcases h1 with ⟨hc, rfl⟩ | ⟨hc, rfl⟩ | ⟨hc, rb, m, rfl, hru⟩
  · have Ho := Lib.hid (fitsW_bad (wd := wd) (n := mx) hc (by omega))
    have Htd := Lib.hid (width_told_width p q u w1 (Hg.out.below hbf))
    clear hc
    go_wp2_with fail
    refine Htd.out.mono ?_
    rintro e w2 ⟨rfl, rfl⟩
    go_wp2_with fail
    exact ⟨_, results_tmp2 rfl _ _ _, by rw [Ho.out]; rfl, hbf⟩
  · have Ho := Lib.hid (fitsW_bad (wd := wd) (n := mx) hc (by omega))
    have Htd := Lib.hid (width_told_utf p q u w1 (Hg.out.below hbf))
    clear hc
    go_wp2_with fail
    refine Htd.out.mono ?_
    rintro e w2 ⟨rfl, rfl⟩
    go_wp2_with fail
    exact ⟨_, results_tmp2 rfl _ _ _, by rw [Ho.out]; rfl, hbf⟩
  · have Ho := Lib.hid (fitsW_ok (wd := wd) (n := mx) hc)
    have hall := chk_all hc
    have hbx := hru.bm
    have hbr := hru.br
    have hne : rb ≠ m := by
      rintro rfl
      obtain ⟨es, ck, kvs, g1, _⟩ := hru.mp
      have := hru.bx
      rw [g1] at this
      cases this
    have hml : m < w1.heap.size := by obtain ⟨es, ck, kvs, g1, _⟩ := hru.mp; exact (Array.getElem?_eq_some_iff.1 g1).1
    have hrl : rb < w1.heap.size := (Array.getElem?_eq_some_iff.1 hru.bx).1
    have hs1 : w.heap.size + 2 ≤ w1.heap.size := by have := hb1.size; simpa using this
    have hmx := (hb1.block (w.heap.size + 1) (by omega)).trans (heap_new (w := w.alloc (.cells #[.slice Ai ni ci, .slice Ab nb cb, .bool wd] 42)) (o := .cells #[.int .i64 mx] 3) (by simp))
    have Hru := Lib.hid hru
    clear hc hru
    go_wp2_with (go_at_call 74; refine (sums_make _ _ _ _ _).mono ?_; rintro e w4 ⟨rfl, rfl⟩)
    refine wp_gen ?_
    intro W2 hW2
    have hsz : W2.heap.size = w1.heap.size + 3 := by simp [hW2]
    have hb2 : Below w1.heap.size w1 W2 := by rw [hW2]; go_grown
    have d0 : W2.heap[w1.heap.size]? = some (.cells #[.int .i64 0] 3 (0, 0)) := (by rw [hW2]; simp (disch := (first | omega | (simp only [World.size_alloc]; done) | (simp only [World.size_alloc]; omega))) only [heap_laws])
    have d1 : W2.heap[w1.heap.size + 1]? = some (.cells #[.pointer (some ⟨rb, 0, none⟩)] 91 (0, 0)) := (by rw [hW2]; simp (disch := (first | omega | (simp only [World.size_alloc]; done) | (simp only [World.size_alloc]; omega))) only [heap_laws])
    have d2 : W2.heap[w1.heap.size + 2]? = some (.cells #[.slice A n c] 22 (0, 0)) := (by rw [hW2]; simp (disch := (first | omega | (simp only [World.size_alloc]; done) | (simp only [World.size_alloc]; omega))) only [heap_laws])
    clear hW2
    have hbW : Below w.heap.size w W2 := hbf.trans (hb2.mono hbf.size)
    have hit := sums_iter (w.heap.size + 1 + 1) (w1.heap.size + 2) (w1.heap.size + 1) rb m Ai ni ci Ab nb cb wd T A n c cs W2 (by omega) (by omega) (by omega) (by omega) (by omega) (Hru.out.keep hb2) d2 d1 ((Hx.out.below hbW).more (by omega)) hn (fun x hx => ⟨Hcs.out x hx, hall x hx⟩)
    have Hit := Lib.hid hit
    have HbW := Lib.hid hbW
    have hmx2 := (hb2.block (w.heap.size + 1) (by omega)).trans hmx
    clear hit hbW hall
    refine (wpIn_wide (n := 0)).1 ?_
    refine range_law (a₁ := ?a1) rfl (enters_of Tryz.func113 (by kernel_rfl) rfl) Hit.out (Below.refl _ _)
      (fun k hk => ?hO) (by omega) (fun _ => rfl)
      (fun i W => Below w.heap.size w W ∧ W.heap[w1.heap.size]? = some (.cells #[.int .i64 (i : Int)] 3 (0, 0)) ∧ W.heap[w.heap.size + 1]? = some (.cells #[.int .i64 mx] 3 (0, 0)) ∧ i ≤ fitW T wd mx cs 0)
      (fun i c W => c = .exit 0 ∧ Below w.heap.size w W ∧ W.heap[w1.heap.size]? = some (.cells #[.int .i64 (i : Int)] 3 (0, 0)) ∧ fitW T wd mx cs 0 = i)
      (fun i X Y hi hm => by
        obtain ⟨h1, h2, h3, h4⟩ := hi
        exact ⟨Below.moves h1 hm (by omega) (fun k hk => by rcases hk with (rfl | rfl) | (rfl | rfl) <;> omega), hm.cells h2 (by rintro ((h | h) | (h | h)) <;> omega), hm.cells h3 (by rintro ((h | h) | (h | h)) <;> omega), h4⟩)
      (fun i c X Y hi hm => by
        obtain ⟨h1, h2, h3, h4⟩ := hi
        exact ⟨h1, Below.moves h2 hm (by omega) (fun k hk => by rcases hk with (rfl | rfl) | (rfl | rfl) <;> omega), hm.cells h3 (by rintro ((h | h) | (h | h)) <;> omega), h4⟩)
      ⟨HbW.out, d0, hmx2, Nat.zero_le _⟩ ?assign ?body ?done ?stop
    case hO => rcases hk with (rfl | rfl) | (rfl | rfl) <;> omega
    case assign =>
      intro l i W K hK
      gi_wp2
      exact hK
    case body =>
      rintro lp i W hi ⟨hbW, hv, hm1, hfi⟩ hsW
      have e0 := cell_blk hv 0
      have f0 := frozen_blk hv 0
      have e1 := cell_blk hm1 0
      have hil : i < cs.length := by rw [Hx.out.len]; exact hi
      have hfs := fun h => fit_stop (n := mx) (T := T) (wd := wd) (cs := cs) hfi h
      have hfn := fun h => fit_next (n := mx) (T := T) (wd := wd) (cs := cs) hfi hil h
      have hst := setCell_blk hv 0 (.int .i64 ((i : Int) + 1))
      have Hst := Lib.hid (And.intro hv (And.intro hm1 hst))
      have Hfs := Lib.hid hfs
      have Hfn := Lib.hid hfn
      clear hst hv hm1 hfs hfn
      generalize sumW T wd (cs.take (i + 1)) = z at *
      by_cases hz : mx < z
      · gi_wp2
        exact ⟨Keeps.refl _ _ _, rfl, hbW, Hst.out.1, Hfs.out hz⟩
      · gi_wp2
        exact ⟨Keeps.setCell W (p := ⟨w1.heap.size, 0, none⟩) (by rintro ((h | h) | (h | h)) <;> (have h : w1.heap.size = _ := h; omega)) (by show w.heap.size + 1 + 1 ≤ w1.heap.size; omega) _, hbW.setCell (p := ⟨w1.heap.size, 0, none⟩) (by show w.heap.size ≤ w1.heap.size; omega) _, by simpa using Hst.out.2.2, (Below.heap_setCell _ _ _ _ (by show w.heap.size + 1 ≠ w1.heap.size; omega)).trans Hst.out.2.1, Hfn.out (by omega)⟩
    case done =>
      rintro D W hD ⟨hbW, hv, hm1, hfi⟩ hK
      have e0 := cell_blk hv 0
      have hfn : fitW T wd mx cs 0 = n := by have := fitW_le T wd mx cs 0; have := Hx.out.len; omega
      have Hfn := Lib.hid hfn
      clear hfn
      clear hv
      go_wp2
      refine ⟨by simp, .inl ⟨_, _, rfl, run_takeDeferred hK, ?_⟩⟩
      refine ⟨_, results_tmp2 rfl _ _ _, by rw [Ho.out, Hfn.out]; rfl, ?_⟩
      exact hbW.trans ⟨rfl, rfl, rfl, by simp, fun k hk => World.putObj_heap_other (by omega)⟩
    case stop =>
      rintro D i c W hD hi ⟨rfl, hbW, hv, hfe⟩ hK
      have e0 := cell_blk hv 0
      have Hfe := Lib.hid hfe
      clear hv hfe
      gi_wp2
      go_wp2
      refine ⟨by simp, .inl ⟨_, _, rfl, run_takeDeferred hK, ?_⟩⟩
      refine ⟨_, results_tmp2 rfl _ _ _, by rw [Ho.out, Hfe.out]; rfl, ?_⟩
      exact hbW.trans ⟨rfl, rfl, rfl, by simp, fun k hk => World.putObj_heap_other (by omega)⟩
end Go.Vir


/- The names of widths: width.Names, viramaref15.Names. -/
namespace Go.Vir
open Go Go.RowKit Go.Proofs
attribute [local go_sem] Oper.semAt_some

def widN : List (List UInt8) := [[78], [65], [72], [87], [70], [78, 97], [90]]
def widO : Obj := .cells #[.string ⟨#[78]⟩, .string ⟨#[65]⟩, .string ⟨#[72]⟩, .string ⟨#[87]⟩, .string ⟨#[70]⟩, .string ⟨#[78, 97]⟩, .string ⟨#[90]⟩] 9
theorem widN_strs (w : World) : Strs (w.alloc widO) (w.alloc widO).heap.size (some ⟨w.heap.size, 0, none⟩) 7 widN := by
  refine ⟨rfl, fun _ => ⟨_, 0, rfl, by simp, fun j hj => ?_⟩⟩
  have h := cell_blk (heap_new (w := w) (o := widO) rfl) j
  rw [Nat.zero_add]
  refine h.trans ?_
  match j, hj with
  | 0, _ => rfl
  | 1, _ => rfl
  | 2, _ => rfl
  | 3, _ => rfl
  | 4, _ => rfl
  | 5, _ => rfl
  | 6, _ => rfl
  | k + 7, h => exact absurd h (by simp [widN])
theorem width_Names (w : World) : Calls Tryz.prog 33 #[] w fun e w' => e = .returned (.slice (some ⟨w.heap.size, 0, none⟩) 7 7) ∧ Strs w' w'.heap.size (some ⟨w.heap.size, 0, none⟩) 7 widN ∧ Below w.heap.size w w' := by
  go_enter Tryz.func33, Tryz.ntmps33
  go_wp2_with fail
  go_ret
  exact ⟨rfl, widN_strs w, by go_grown⟩
end Go.Vir


/- The numbers at which a map says something else: their pieces are the map's ranges. No program. -/
namespace Go.Vir
open Go

/-- Each number, and the last one ahead of the next. -/
def segL : List Int → List (Int × Int)
  | [] => []
  | n :: t => (n, (t.head?.map (· - 1)).getD 1114111) :: segL t
/-- The numbers at which something turns, from p on. -/
def brkX : Int → List Rg → List Int
  | p, [] => if p = 1114112 then [] else [p]
  | p, x :: l => if p = x.f then p :: brkX (x.t + 1) l else p :: x.f :: brkX (x.t + 1) l
theorem brk_cons (p : Int) (x : Rg) (l : List Rg) : brkX p (x :: l) = if p = x.f then p :: brkX (x.t + 1) l else p :: x.f :: brkX (x.t + 1) l := by rw [brkX]
/-- What is said of pieces. -/
def saidL (L : List Rg) (l : List (Int × Int)) : List Rg := l.filterMap fun p => (findR L p.1).map fun v => { f := p.1, t := p.2, v := v }

theorem rise_ints_ext : ∀ {l m : List Int}, l.Pairwise (· < ·) → m.Pairwise (· < ·) → (∀ x, x ∈ l ↔ x ∈ m) → l = m
  | [], [], _, _, _ => rfl
  | [], y :: m, _, _, h => by have := (h y).2 (List.mem_cons_self ..); cases this
  | x :: l, [], _, _, h => by have := (h x).1 (List.mem_cons_self ..); cases this
  | x :: l, y :: m, hl, hm, h => by
    obtain ⟨hl1, hl2⟩ := List.pairwise_cons.1 hl
    obtain ⟨hm1, hm2⟩ := List.pairwise_cons.1 hm
    have hxy : x = y := by
      rcases List.mem_cons.1 ((h x).1 (List.mem_cons_self ..)) with e | hx
      · exact e
      · rcases List.mem_cons.1 ((h y).2 (List.mem_cons_self ..)) with e | hy
        · exact e.symm
        · have h1 := hm1 x hx
          have h2 := hl1 y hy
          omega
    subst hxy
    have : l = m := rise_ints_ext hl2 hm2 (fun z => ?_)
    · rw [this]
    · have hz := h z
      constructor
      · intro hzl
        rcases List.mem_cons.1 (hz.1 (List.mem_cons_of_mem _ hzl)) with e | e
        · have := hl1 z hzl; omega
        · exact e
      · intro hzm
        rcases List.mem_cons.1 (hz.2 (List.mem_cons_of_mem _ hzm)) with e | e
        · have := hm1 z hzm; omega
        · exact e

theorem brk_mem : ∀ {l : List Rg} {p : Int}, riseR (p - 1) l = true → ∀ y, y ∈ brkX p l ↔ y ≠ 1114112 ∧ (y = p ∨ ∃ x ∈ l, y = x.f ∨ y = x.t + 1)
  | [], p, _, y => by
    unfold brkX
    split
    · rename_i h
      constructor
      · intro hy; cases hy
      · rintro ⟨h1, h2 | ⟨x, hx, _⟩⟩
        · omega
        · cases hx
    · rename_i h
      simp only [List.mem_singleton, List.not_mem_nil, false_and, exists_false, or_false]
      constructor
      · rintro rfl; exact ⟨h, rfl⟩
      · exact fun hh => hh.2
  | x :: l, p, h, y => by
    simp only [riseR, Bool.and_eq_true, decide_eq_true_eq] at h
    have ho := oneR_iff.1 h.1
    have ih := brk_mem (l := l) (p := x.t + 1) (by rw [show x.t + 1 - 1 = x.t by omega]; exact h.2.2) y
    have hgo : y ∈ brkX p (x :: l) ↔ y = p ∨ y = x.f ∨ y ∈ brkX (x.t + 1) l := by
      rw [brk_cons]
      split
      · rename_i e
        rw [List.mem_cons]
        constructor
        · rintro (h | h)
          · exact .inl h
          · exact .inr (.inr h)
        · rintro (h | h | h)
          · exact .inl h
          · exact .inl (by rw [h, e])
          · exact .inr h
      · rw [List.mem_cons, List.mem_cons]
    rw [hgo, ih]
    constructor
    · rintro (rfl | rfl | ⟨h1, h2⟩)
      · exact ⟨by omega, .inl rfl⟩
      · exact ⟨by omega, .inr ⟨x, List.mem_cons_self .., .inl rfl⟩⟩
      · refine ⟨h1, ?_⟩
        rcases h2 with rfl | ⟨z, hz, hh⟩
        · exact .inr ⟨x, List.mem_cons_self .., .inr rfl⟩
        · exact .inr ⟨z, List.mem_cons_of_mem _ hz, hh⟩
    · rintro ⟨h1, rfl | ⟨z, hz, hh⟩⟩
      · exact .inl rfl
      · rcases List.mem_cons.1 hz with rfl | hz
        · rcases hh with rfl | rfl
          · exact .inr (.inl rfl)
          · exact .inr (.inr ⟨h1, .inl rfl⟩)
        · exact .inr (.inr ⟨h1, .inr ⟨z, hz, hh⟩⟩)
theorem brk_ge : ∀ {l : List Rg} {p : Int}, riseR (p - 1) l = true → ∀ y ∈ brkX p l, p ≤ y := by
  intro l p h y hy
  obtain ⟨_, h2⟩ := (brk_mem h y).1 hy
  rcases h2 with rfl | ⟨x, hx, hh⟩
  · omega
  · have h1 := rise_one h x hx
    have h3 := oneR_iff.1 h1.1
    rcases hh with rfl | rfl <;> omega
theorem brk_rise : ∀ {l : List Rg} {p : Int}, riseR (p - 1) l = true → (brkX p l).Pairwise (· < ·)
  | [], p, _ => by unfold brkX; split <;> simp
  | x :: l, p, h => by
    simp only [riseR, Bool.and_eq_true, decide_eq_true_eq] at h
    have ho := oneR_iff.1 h.1
    have hr : riseR (x.t + 1 - 1) l = true := by rw [show x.t + 1 - 1 = x.t by omega]; exact h.2.2
    have ih := brk_rise hr
    have hge := brk_ge hr
    rw [brk_cons]
    split
    · rename_i e
      exact List.pairwise_cons.2 ⟨fun y hy => by have := hge y hy; omega, ih⟩
    · refine List.pairwise_cons.2 ⟨fun y hy => ?_, List.pairwise_cons.2 ⟨fun y hy => by have := hge y hy; omega, ih⟩⟩
      rcases List.mem_cons.1 hy with rfl | hy
      · omega
      · have := hge y hy; omega
theorem brk_head {l : List Rg} {p : Int} (h : riseR (p - 1) l = true) : ((brkX p l).head?.map (· - 1)).getD 1114111 = p - 1 := by
  cases l with
  | nil =>
    unfold brkX
    split
    · rename_i e; subst e; rfl
    · rfl
  | cons x l => rw [brk_cons]; split <;> rfl
theorem seg_said (L : List Rg) (hL : riseR (-1) L = true) : ∀ (l dn : List Rg) (p : Int), L = dn ++ l → (∀ x ∈ dn, x.t < p) → riseR (p - 1) l = true → saidL L (segL (brkX p l)) = l
  | [], dn, p, e, hd, _ => by
    unfold brkX
    split
    · rfl
    · have : findR L p = none := find_none.2 fun x hx => by
        rw [e, List.append_nil] at hx
        have := hd x hx; omega
      simp [segL, saidL, this]
  | x :: l, dn, p, e, hd, h => by
    simp only [riseR, Bool.and_eq_true, decide_eq_true_eq] at h
    have ho := oneR_iff.1 h.1
    have hr : riseR (x.t + 1 - 1) l = true := by rw [show x.t + 1 - 1 = x.t by omega]; exact h.2.2
    have ih := seg_said L hL l (dn ++ [x]) (x.t + 1) (by rw [e]; simp) (fun y hy => by
      rcases List.mem_append.1 hy with hy | hy
      · have := hd y hy; omega
      · simp only [List.mem_singleton] at hy; subst hy; omega) hr
    have hh := brk_head hr
    have hx : findR L x.f = some x.v := (find_rise hL).2 ⟨x, by rw [e]; simp, by omega, by omega, rfl⟩
    have hone : saidL L (segL (x.f :: brkX (x.t + 1) l)) = x :: l := by
      unfold segL
      rw [hh]
      unfold saidL at ih ⊢
      rw [List.filterMap_cons]
      simp only [hx, Option.map_some]
      rw [ih]
      have : ({ f := x.f, t := x.t + 1 - 1, v := x.v } : Rg) = x := by
        rw [show x.t + 1 - 1 = x.t by omega]
      rw [this]
    rw [brk_cons]
    split
    · rename_i e2; rw [e2]; exact hone
    · rename_i e2
      have hn : findR L p = none := find_none.2 fun y hy => by
        rw [e] at hy
        rcases List.mem_append.1 hy with hy | hy
        · have := hd y hy; omega
        · rcases List.mem_cons.1 hy with rfl | hy
          · omega
          · have := (rise_one h.2.2 y hy).2; omega
      rw [segL]
      unfold saidL at hone ⊢
      rw [List.filterMap_cons]
      simp only [hn, Option.map_none]
      exact hone
/-- The pieces of a map's turns, of which something is said, are its ranges. -/
theorem turns_said {L : List Rg} (h : riseR (-1) L = true) {ks : List Int} (hs : ks.Pairwise (· < ·)) (hm : ∀ y, y ∈ ks ↔ y ≠ 1114112 ∧ (y = 0 ∨ ∃ x ∈ L, y = x.f ∨ y = x.t + 1)) : saidL L (segL ks) = L := by
  have hr : riseR (0 - 1) L = true := h
  have : ks = brkX 0 L := rise_ints_ext hs (brk_rise hr) (fun y => (hm y).trans (brk_mem hr y).symm)
  rw [this]
  exact seg_said L h L [] 0 rfl (by simp) hr
end Go.Vir


/- What files say of numbers, record by record. No program. -/
namespace Go.Vir
open Go Go.Lib

/-- The records that say something, or are wrong. -/
def evP (ss : List (List UInt8)) (k : Nat) (loose : Bool) : List RecV → List (RecV × Option Int)
  | [] => []
  | x :: l => match saysB ss k x with
    | none => if loose then evP ss k loose l else (x, none) :: evP ss k loose l
    | some v => (x, some v) :: evP ss k loose l
theorem evP_cons (ss : List (List UInt8)) (k : Nat) (loose : Bool) (x : RecV) (l : List RecV) : evP ss k loose (x :: l) = match saysB ss k x with
    | none => if loose then evP ss k loose l else (x, none) :: evP ss k loose l
    | some v => (x, some v) :: evP ss k loose l := by rw [evP]
def readsE : List (RecV × Option Int) → List Rg → List Rg ⊕ (Int × Int)
  | [], out => .inl out
  | (x, none) :: _, _ => .inr (x.line, 40)
  | (x, some v) :: es, out => if out.any (lapR (rgOf x v)) then .inr (x.line, 30) else readsE es (out ++ [rgOf x v])
theorem readsE_none (x : RecV) (es : List (RecV × Option Int)) (out : List Rg) : readsE ((x, none) :: es) out = .inr (x.line, 40) := by rw [readsE]
theorem readsE_some (x : RecV) (v : Int) (es : List (RecV × Option Int)) (out : List Rg) : readsE ((x, some v) :: es) out = if out.any (lapR (rgOf x v)) then .inr (x.line, 30) else readsE es (out ++ [rgOf x v]) := by rw [readsE]
theorem reads_evs (ss : List (List UInt8)) (k : Nat) (loose : Bool) : ∀ (l : List RecV) (out : List Rg), readsB ss k loose l out = readsE (evP ss k loose l) out
  | [], _ => rfl
  | x :: l, out => by
    rw [readsB_cons, evP_cons]
    cases saysB ss k x with
    | none =>
      cases loose with
      | true => simp only [if_true]; exact reads_evs ss k true l out
      | false => simp only [Bool.false_eq_true, if_false, readsE_none]
    | some v =>
      simp only [readsE_some]
      split
      · rfl
      · exact reads_evs ss k loose l _
theorem laps_eq {y : Rg} (hy : y.f ≤ y.t) (x : Rg) : (decide (x = y) || (decide (x.f ≤ y.t) && decide (y.f ≤ x.t))) = lapR y x := by
  rw [Bool.eq_iff_iff]
  simp only [Bool.or_eq_true, Bool.and_eq_true, decide_eq_true_eq, lapR_iff]
  constructor
  · rintro (rfl | ⟨h1, h2⟩)
    · exact ⟨hy, hy⟩
    · exact ⟨h2, h1⟩
  · rintro ⟨h1, h2⟩
    exact .inr ⟨h2, h1⟩
/-- What is read out of records, tight. -/
theorem tight_said {m : List Rg} (h : riseR (-1) m = true) {ks : List Int} (hs : ks.Pairwise (· < ·)) (hm : ∀ y, y ∈ ks ↔ y ≠ 1114112 ∧ (y = 0 ∨ ∃ x ∈ m, y = x.f ∨ y = x.t + 1)) : (saidL m (segL ks)).foldl addR [] = tightR m := by
  rw [turns_said h hs hm]; rfl
end Go.Vir


/- prop: a name's value; ranges that lap. -/
namespace Go.Vir
open Go Go.RowKit Go.Proofs Go.Shelf
attribute [local go_sem] Oper.semAt_some

theorem look_names {w : World} {r ck : Nat} {es : Array MapEntry} {ss : List (List UInt8)} (x : List UInt8) (hr : w.heap[r]? = some (.map es ck)) (ha : Asc es (kvOf ss 0)) :
    (Instr.lookup 70 (.map (some r)) (.string ⟨x.toArray⟩) true).run Tryz.prog w = .ok (.tuple #[.int .i64 ((valB x ss 0).getD 0), .bool (valB x ss 0).isSome]) w := by
  have h := run_look_kv (P := Tryz.prog) (k := x) true Tryz.underlying70 Tryz.underlying9 (Tryz.zeroValue3 w) hr ha
  have h1 := look_val x (kvOf ss 0) 0
  rw [valKV_kvOf] at h1
  have h2 : (lookKV x (kvOf ss 0) 0).isSome = (valB x ss 0).isSome := by rw [← h1]; cases lookKV x (kvOf ss 0) 0 <;> rfl
  rw [h1, h2] at h
  exact h

theorem names_value (A : Option Addr) (n c r ck : Nat) (es : Array MapEntry) (ss : List (List UInt8)) (x : List UInt8) (w : World) (hr : w.heap[r]? = some (.map es ck)) (ha : Asc es (kvOf ss 0)) :
    Calls Tryz.prog 53 #[.agg #[.slice A n c, .map (some r)], .string ⟨x.toArray⟩] w fun e w' => e = .returned (.tuple #[.int .i64 ((valB x ss 0).getD 0), .bool (valB x ss 0).isSome]) ∧ Below w.heap.size w w' := by
  have hrl : r < w.heap.size := (Array.getElem?_eq_some_iff.1 hr).1
  have hlk := look_names x (w := w.alloc (.cells #[.slice A n c, .map (some r)] 72)) ((heap_old hrl).trans hr) ha
  generalize (valB x ss 0).getD 0 = v at *
  generalize (valB x ss 0).isSome = o at *
  clear hr ha
  go_enter Tryz.func53, Tryz.ntmps53
  go_wp2_with fail
  go_ret2
  exact ⟨rfl, by go_grown⟩

set_option maxHeartbeats 1000000 in
theorem laps1 (y x : Rg) (b : Nat) (w : World) (hy : y.f ≤ y.t) (hb : w.heap[b]? = some (.cells #[.int .i64 y.f, .int .i64 y.t, .int .i64 y.v] 65 (0, 0))) :
    Calls Tryz.prog 152 #[encR x, .pointer (some ⟨b, 0, none⟩)] w fun e w' => e = .returned (.bool (lapR y x)) ∧ Below w.heap.size w w' := by
  have hq := fun w => rg_eql x y w
  have u0 : w.cell? ⟨b, 0, none⟩ = some (.int .i64 y.f) := cell_blk hb 0
  have u1 : w.cell? ⟨b, 1, none⟩ = some (.int .i64 y.t) := cell_blk hb 1
  have u2 : w.cell? ⟨b, 2, none⟩ = some (.int .i64 y.v) := cell_blk hb 2
  have hbl : b < w.heap.size := (Array.getElem?_eq_some_iff.1 hb).1
  rw [← laps_eq hy x]
  obtain ⟨f, t, v⟩ := x
  obtain ⟨f2, t2, v2⟩ := y
  simp only [encR] at *
  clear hb hy
  rcases hE : decide (({ f := f, t := t, v := v } : Rg) = { f := f2, t := t2, v := v2 }) with _ | _
  · rw [hE] at hq
    by_cases h1 : f ≤ t2
    · have h2 : decide (f ≤ t2) = true := decide_eq_true h1
      clear hE
      go_enter Tryz.func152, Tryz.ntmps152
      go_wp2_with fail
      go_ret
      exact ⟨ret_bool (by simp [h1]), by go_grown⟩
    · have h2 : decide (f ≤ t2) = false := decide_eq_false h1
      clear hE
      go_enter Tryz.func152, Tryz.ntmps152
      go_wp2_with fail
      go_ret
      exact ⟨ret_bool (by simp), by go_grown⟩
  · rw [hE] at hq
    clear hE
    go_enter Tryz.func152, Tryz.ntmps152
    go_wp2_with fail
    go_ret
    exact ⟨ret_bool (by simp), by go_grown⟩

theorem reader_laps (R : Nat) (A : Option Addr) (n c : Nat) (l : List Rg) (y : Rg) (w : World) (hy : y.f ≤ y.t) (hR : w.cell? ⟨R, 4, none⟩ = some (.slice A n c)) (hRl : R < w.heap.size) (hx : Rgs w w.heap.size A n l) (hn : n ≤ 1000000) :
    Calls Tryz.prog 126 #[.pointer (some ⟨R, 0, none⟩), .agg #[.int .i64 y.f, .int .i64 y.t, .int .i64 y.v]] w fun e w' => e = .returned (.bool (l.any (lapR y))) ∧ Below w.heap.size w w' := by
  have hw : Below w.heap.size w (w.alloc (.cells #[.int .i64 y.f, .int .i64 y.t, .int .i64 y.v] 65)) := by go_grown
  have hcon := containsFunc_rg (p := lapR y) (lb := #[.pointer (some ⟨w.heap.size, 0, none⟩)]) A n c l (w.alloc (.cells #[.int .i64 y.f, .int .i64 y.t, .int .i64 y.v] 65)) (enters_of Tryz.func152 (by kernel_rfl) rfl)
    ((hx.below hw).more hw.size) (fun x W hW => laps1 y x w.heap.size W hy ((hW.block _ (by simp)).trans (heap_new rfl))) hn
  generalize l.any (lapR y) = V at *
  obtain ⟨f, t, v⟩ := y
  simp only at *
  have Hcon := Lib.hid hcon
  clear hcon hw hx hy
  go_enter Tryz.func126, Tryz.ntmps126
  go_wp2_with fail
  refine Hcon.out.mono ?_
  rintro e w1 ⟨rfl, hb1⟩
  go_wp2_with fail
  go_ret
  exact ⟨rfl, Below.trans (by go_grown) (hb1.mono (by simp))⟩
end Go.Vir


/- The walks of field: digits, Code. -/
namespace Go.Vir
open Go Go.RowKit Go.Proofs Go.Shelf
attribute [local go_sem] Oper.semAt_some

/-- The numbers of hexadecimal digits. -/
def digK : KI := [(48, 0), (49, 1), (50, 2), (51, 3), (52, 4), (53, 5), (54, 6), (55, 7), (56, 8), (57, 9), (97, 10), (98, 11), (99, 12), (100, 13), (101, 14), (102, 15), (65, 10), (66, 11), (67, 12), (68, 13), (69, 14), (70, 15)]
def digI (r : Int) : Option Int := if 48 ≤ r ∧ r ≤ 57 then some (r - 48) else if 97 ≤ r ∧ r ≤ 102 then some (r - 87) else if 65 ≤ r ∧ r ≤ 70 then some (r - 55) else none
theorem digK_val (r : Int) : valI r digK = digI r := by
  unfold digI
  split
  · rename_i h
    rcases (by omega : r = 48 ∨ r = 49 ∨ r = 50 ∨ r = 51 ∨ r = 52 ∨ r = 53 ∨ r = 54 ∨ r = 55 ∨ r = 56 ∨ r = 57) with rfl | rfl | rfl | rfl | rfl | rfl | rfl | rfl | rfl | rfl <;> decide
  · split
    · rename_i h
      rcases (by omega : r = 97 ∨ r = 98 ∨ r = 99 ∨ r = 100 ∨ r = 101 ∨ r = 102) with rfl | rfl | rfl | rfl | rfl | rfl <;> decide
    · split
      · rename_i h
        rcases (by omega : r = 65 ∨ r = 66 ∨ r = 67 ∨ r = 68 ∨ r = 69 ∨ r = 70) with rfl | rfl | rfl | rfl | rfl | rfl <;> decide
      · unfold digK
        repeat (unfold valI; rw [if_neg (by show ¬ (_ : Int) = r; omega)])
        rfl
theorem digI_byte (b : UInt8) : digI (b.toNat : Int) = (digN b).map fun (d : Nat) => (d : Int) := by
  unfold digI digN
  by_cases h1 : 48 ≤ b.toNat ∧ b.toNat ≤ 57
  · rw [if_pos (by omega), if_pos h1, Option.map_some]; congr 1; omega
  · rw [if_neg (by omega), if_neg h1]
    by_cases h2 : 97 ≤ b.toNat ∧ b.toNat ≤ 102
    · rw [if_pos (by omega), if_pos h2, Option.map_some]; congr 1; omega
    · rw [if_neg (by omega), if_neg h2]
      by_cases h3 : 65 ≤ b.toNat ∧ b.toNat ≤ 70
      · rw [if_pos (by omega), if_pos h3, Option.map_some]; congr 1; omega
      · rw [if_neg (by omega), if_neg h3]; rfl

/-- The digits' map, half made. -/
def digS1 : ByteArray := ⟨#[48, 49, 50, 51, 52, 53, 54, 55, 56, 57, 97, 98, 99, 100, 101, 102]⟩
def digS2 : ByteArray := ⟨#[65, 66, 67, 68, 69, 70]⟩
theorem dig_next1 : ∀ k : Nat, k < 16 → ∃ h : k < digS1.size, (digS1[k]'h).toNat < 128 ∧ ∃ x, digK[k]? = some x ∧ x.1 = ((digS1[k]'h).toNat : Int) ∧ x.2 = (k : Int) ∧ digK.take (k + 1) = digK.take k ++ [x] ∧ updI x.1 x.2 (digK.take k) = digK.take k ++ [x] := by
  intro k hk
  rcases (by omega : k = 0 ∨ k = 1 ∨ k = 2 ∨ k = 3 ∨ k = 4 ∨ k = 5 ∨ k = 6 ∨ k = 7 ∨ k = 8 ∨ k = 9 ∨ k = 10 ∨ k = 11 ∨ k = 12 ∨ k = 13 ∨ k = 14 ∨ k = 15) with rfl | rfl | rfl | rfl | rfl | rfl | rfl | rfl | rfl | rfl | rfl | rfl | rfl | rfl | rfl | rfl <;> exact ⟨by decide, by decide, _, rfl, by decide, by decide, by decide, by decide⟩
theorem dig_next2 : ∀ k : Nat, k < 6 → ∃ h : k < digS2.size, (digS2[k]'h).toNat < 128 ∧ ∃ x, digK[16 + k]? = some x ∧ x.1 = ((digS2[k]'h).toNat : Int) ∧ x.2 = (k : Int) + 10 ∧ digK.take (16 + k + 1) = digK.take (16 + k) ++ [x] ∧ updI x.1 x.2 (digK.take (16 + k)) = digK.take (16 + k) ++ [x] := by
  intro k hk
  rcases (by omega : k = 0 ∨ k = 1 ∨ k = 2 ∨ k = 3 ∨ k = 4 ∨ k = 5) with rfl | rfl | rfl | rfl | rfl | rfl <;> exact ⟨by decide, by decide, _, rfl, by decide, by decide, by decide, by decide⟩

def DigRel (m q n : Nat) (S : ByteArray) (w : World) (k0 : Nat) (wr : World) : Prop := ∃ (k : Nat) (es : Array MapEntry) (ck : Nat), k ≤ n ∧ AscI .i32 es (digK.take (k0 + k)) ∧ wr.heap[m]? = some (.map es ck) ∧ wr.heap[q]? = some (.stringIter S k) ∧ Below m w wr

set_option maxHeartbeats 1600000 in
theorem field_digits (w : World) : Calls Tryz.prog 228 #[] w fun e w' => (∃ b es ck, e = .returned (.map (some b)) ∧ w'.heap[b]? = some (.map es ck) ∧ AscI .i32 es digK) ∧ Below w.heap.size w w' := by
  have hS1 : digS1.size = 16 := by decide
  have hS2 : digS2.size = 6 := by decide
  have e1 : (⟨#[48, 49, 50, 51, 52, 53, 54, 55, 56, 57, 97, 98, 99, 100, 101, 102]⟩ : ByteArray) = digS1 := rfl
  have e2 : (⟨#[65, 66, 67, 68, 69, 70]⟩ : ByteArray) = digS2 := rfl
  have hmm := @run_makeMap Tryz.prog
  go_enter Tryz.func228, Tryz.ntmps228
  go_wp2
  go_loopw [] (fun wr => DigRel w.heap.size (w.heap.size + 1) 16 digS1 w 0 wr) (fun wr => 16 - wr.iterPos (w.heap.size + 1))
  case atStart =>
    refine ⟨0, #[], 0, Nat.zero_le _, rfl, ?_, ?_, ((Below.refl _ w).alloc (Nat.le_refl _) _).alloc (by simp) _⟩
    · exact (heap_old (by simp)).trans (heap_new rfl)
    · have := World.iter_heap (w.alloc (.map #[] 0)) digS1 0
      simp only [World.size_alloc] at this
      exact this
  case round =>
    obtain ⟨k, es, ck, hk, ha, hm, hit, hbr⟩ := hrel
    rcases Nat.lt_or_ge k 16 with hlt | hge
    · obtain ⟨hks, h128, x, hx0, hx1, hx2, htk, hup⟩ := dig_next1 k hlt
      have hnx : ∀ ty, (Instr.next (.pointer (some ⟨w.heap.size + 1, 0, none⟩)) true ty).run Tryz.prog wr = .ok (.tuple #[.bool true, .int .i64 (k : Int), .int .i32 x.1]) (wr.iterAt (w.heap.size + 1) digS1 (k + 1)) := fun ty => by
        rw [Lib.run_next_any_at wr (w.heap.size + 1) digS1 k ty hit hks, decode_ascii digS1 k hks h128, hx1]
      have hit2 := Lib.iterAt_heap wr (w.heap.size + 1) digS1 k (k + 1) hit
      have hm2 := (Lib.iterAt_other wr (w.heap.size + 1) w.heap.size digS1 (k + 1) (by omega)).trans hm
      have hb2 := Lib.below_iterAt hbr (k := w.heap.size + 1) (by omega) digS1 (k + 1)
      have Hit := Lib.hid hit
      have Hit2 := Lib.hid hit2
      rw [Nat.zero_add] at ha
      have Ha := Lib.hid ha
      have Hup := Lib.hid (hup.trans htk.symm)
      have Hm2 := Lib.hid hm2
      obtain ⟨x1, x2⟩ := x
      simp only at hnx hx2
      subst hx2
      clear hit hit2 hm ha hx0 hx1 htk hup hbr hm2
      generalize wr.iterAt (w.heap.size + 1) digS1 (k + 1) = Wi at *
      go_wp2_with (at_mapUpdate; refine wpList_upd_ki rfl rfl rfl rfl rfl Tryz.underlying156 Tryz.underlying21 Hm2.out Ha.out ?_; intro es2 ck2 ha2)
      go_roundw
      case rel =>
        rw [Hup.out] at ha2
        refine ⟨k + 1, es2, ck2, by omega, by rw [Nat.zero_add]; exact ha2, ?_, ?_, ?_⟩
        · exact World.putObj_heap_same (Array.getElem?_eq_some_iff.1 Hm2.out).1
        · exact (World.putObj_heap_other (by omega)).trans Hit2.out
        · exact ⟨hb2.os, hb2.tape, hb2.output, by simpa using hb2.size, fun j hj => (World.putObj_heap_other (by omega)).trans (hb2.block j hj)⟩
      case measure =>
        simp only [World.iterPos, (World.putObj_heap_other (show w.heap.size + 1 ≠ w.heap.size by omega)).trans Hit2.out, Hit.out]
        omega
    · have hk16 : k = 16 := by omega
      subst hk16
      have hnx : ∀ ty, (Instr.next (.pointer (some ⟨w.heap.size + 1, 0, none⟩)) true ty).run Tryz.prog wr = .ok (.tuple #[.bool false]) wr := fun ty => Lib.run_next_end_at wr (w.heap.size + 1) digS1 16 ty hit (by rw [hS1]; omega)
      have Ha := Lib.hid ha
      have hb1 := hbr.alloc hbr.size (.stringIter digS2 0)
      have hsz : w.heap.size + 1 < wr.heap.size := (Array.getElem?_eq_some_iff.1 hit).1
      obtain ⟨wo, hwo⟩ : ∃ wo : World, wo = wr := ⟨_, rfl⟩
      clear ha
      go_wp2
      subst hwo
      obtain ⟨q, hq⟩ : ∃ q, q = wo.heap.size := ⟨_, rfl⟩
      go_loopw [] (fun wr => DigRel w.heap.size wo.heap.size 6 digS2 w 16 wr) (fun wr => 6 - wr.iterPos wo.heap.size)
      case atStart =>
        refine ⟨0, es, ck, Nat.zero_le _, Ha.out, ?_, ?_, hb1⟩
        · exact (heap_old (by omega)).trans hm
        · exact World.iter_heap wo digS2 0
      case round =>
        obtain ⟨k, es, ck, hk, ha, hm, hit, hbr⟩ := hrel
        rcases Nat.lt_or_ge k 6 with hlt | hge
        · obtain ⟨hks, h128, x, hx0, hx1, hx2, htk, hup⟩ := dig_next2 k hlt
          have hnx : ∀ ty, (Instr.next (.pointer (some ⟨wo.heap.size, 0, none⟩)) true ty).run Tryz.prog wr = .ok (.tuple #[.bool true, .int .i64 (k : Int), .int .i32 x.1]) (wr.iterAt wo.heap.size digS2 (k + 1)) := fun ty => by
            rw [Lib.run_next_any_at wr wo.heap.size digS2 k ty hit hks, decode_ascii digS2 k hks h128, hx1]
          have hit2 := Lib.iterAt_heap wr wo.heap.size digS2 k (k + 1) hit
          have hm2 := (Lib.iterAt_other wr wo.heap.size w.heap.size digS2 (k + 1) (by omega)).trans hm
          have hb2 := Lib.below_iterAt hbr (k := wo.heap.size) (by omega) digS2 (k + 1)
          have Hit := Lib.hid hit
          have Hit2 := Lib.hid hit2
          have Ha := Lib.hid ha
          have Hup := Lib.hid (hup.trans htk.symm)
          have Hm2 := Lib.hid hm2
          obtain ⟨x1, x2⟩ := x
          simp only at hnx hx2
          subst hx2
          clear hit hit2 hm ha hx0 hx1 htk hup hbr hm2
          generalize wr.iterAt wo.heap.size digS2 (k + 1) = Wi at *
          go_wp2_with (at_mapUpdate; refine wpList_upd_ki rfl rfl rfl rfl rfl Tryz.underlying156 Tryz.underlying21 Hm2.out Ha.out ?_; intro es2 ck2 ha2)
          go_roundw
          case rel =>
            rw [Hup.out] at ha2
            refine ⟨k + 1, es2, ck2, by omega, ha2, ?_, ?_, ?_⟩
            · exact World.putObj_heap_same (Array.getElem?_eq_some_iff.1 Hm2.out).1
            · exact (World.putObj_heap_other (by omega)).trans Hit2.out
            · exact ⟨hb2.os, hb2.tape, hb2.output, by simpa using hb2.size, fun j hj => (World.putObj_heap_other (by omega)).trans (hb2.block j hj)⟩
          case measure =>
            simp only [World.iterPos, (World.putObj_heap_other (show wo.heap.size ≠ w.heap.size by omega)).trans Hit2.out, Hit.out]
            omega
        · have hk6 : k = 6 := by omega
          subst hk6
          have hnx : ∀ ty, (Instr.next (.pointer (some ⟨wo.heap.size, 0, none⟩)) true ty).run Tryz.prog wr = .ok (.tuple #[.bool false]) wr := fun ty => Lib.run_next_end_at wr wo.heap.size digS2 6 ty hit (by rw [hS2]; omega)
          have Ha := Lib.hid ha
          have Hm := Lib.hid hm
          clear ha hm hit
          go_wp2
          go_ret
          exact ⟨⟨w.heap.size, es, ck, rfl, Hm.out, Ha.out⟩, hbr⟩
end Go.Vir


/- The walks of codes: field.Code; viramaref03.digit, Code. -/
namespace Go.Vir
open Go Go.RowKit Go.Proofs Go.Shelf
attribute [local go_sem] Oper.semAt_some

def codeI (s : List UInt8) : Int := (((codeN s).getD 0 : Nat) : Int)
def CodeRel (w1 : World) (s : List UInt8) (v : Value) (wr : World) : Prop := ∃ pos n : Nat, pos ≤ s.length ∧ v = .int .i64 (n : Int) ∧ digsN (s.drop pos) n = digsN s 0 ∧ n < 16 ^ pos ∧ wr = w1.iter ⟨s.toArray⟩ pos
theorem digs_step {s : List UInt8} {pos n : Nat} (h : pos < s.length) (hd : digsN (s.drop pos) n = digsN s 0) : digsN s 0 = match digN s[pos] with | some d => digsN (s.drop (pos + 1)) (16 * n + d) | none => none := by
  rw [← hd, List.drop_eq_getElem_cons h]
  rfl
theorem pow_five {n pos : Nat} (h : n < 16 ^ pos) (hp : pos < 6) : n < 1048576 := by
  have : 16 ^ pos ≤ 16 ^ 5 := Nat.pow_le_pow_right (by decide) (by omega)
  omega
theorem pow_next {n pos d : Nat} (h : n < 16 ^ pos) (hd : d < 16) : 16 * n + d < 16 ^ (pos + 1) := by
  rw [Nat.pow_succ]; omega
theorem code_long {s : List UInt8} (h : s.length < 4 ∨ 6 < s.length) : codeI s = 0 ∧ (codeN s).isSome = false := by
  unfold codeI codeN; rw [if_pos h]; exact ⟨rfl, rfl⟩
theorem code_digs {s : List UInt8} (h : ¬ (s.length < 4 ∨ 6 < s.length)) : codeN s = digsN s 0 := by unfold codeN; rw [if_neg h]
theorem run_dig {w1 : World} {S : ByteArray} {bm : Nat} {es : Array MapEntry} {ck : Nat} (hm : w1.heap[bm]? = some (.map es ck)) (ha : AscI .i32 es digK) (c : Int) (p : Nat) :
    (Instr.lookup 156 (.map (some bm)) (.int .i32 c) true).run Tryz.prog (w1.iter S p) = .ok (.tuple #[.int .i64 ((digI c).getD 0), .bool (digI c).isSome]) (w1.iter S p) := by
  have h := run_look_ki (P := Tryz.prog) (w := w1.iter S p) (k := c) true Tryz.underlying156 Tryz.underlying21 (Tryz.zeroValue3 _) ((heap_old (Array.getElem?_eq_some_iff.1 hm).1).trans hm) ha
  have e1 : (lookI c digK 0).isSome = (digI c).isSome := by rw [← digK_val, ← look_valI c digK 0, Option.isSome_map]
  have e2 : (lookI c digK 0).map (·.2) = digI c := by rw [look_valI, digK_val]
  rw [e1, e2] at h
  exact h

set_option maxRecDepth 100000 in
set_option maxHeartbeats 1600000 in
theorem field_Code (s : List UInt8) (w : World) (hs : s.length ≤ 9223372036854775807) :
    Calls Tryz.prog 206 #[.string ⟨s.toArray⟩] w fun e w' => e = .returned (.tuple #[.int .i64 (codeI s), .bool (codeN s).isSome]) ∧ Below w.heap.size w w' := by
  by_cases hlen : s.length < 4 ∨ 6 < s.length
  · obtain ⟨h1, h2⟩ := code_long hlen
    rw [h1, h2]
    clear h1 h2
    rcases (by omega : s.length < 4 ∨ (¬ s.length < 4 ∧ 6 < s.length)) with h | ⟨h, h'⟩
    · go_enter Tryz.func206, Tryz.ntmps206
      go_wp2
      go_ret2
      exact ⟨rfl, Below.refl _ _⟩
    · go_enter Tryz.func206, Tryz.ntmps206
      go_wp2
      go_ret2
      exact ⟨rfl, Below.refl _ _⟩
  · have hc := code_digs hlen
    have hci : codeI s = (((digsN s 0).getD 0 : Nat) : Int) := by unfold codeI; rw [hc]
    rw [hc, hci]
    have h4 : ¬ s.length < 4 := by omega
    have h6 : ¬ 6 < s.length := by omega
    obtain ⟨R, hR⟩ : ∃ R, digsN s 0 = R := ⟨_, rfl⟩
    rw [hR]
    have HR := Lib.hid hR
    have hsz : (⟨s.toArray⟩ : ByteArray).size = s.length := by have := Lib.size_eq ⟨s.toArray⟩; simpa using this
    have Hsz := Lib.hid hsz
    clear hc hci hlen hR hsz
    go_enter Tryz.func206, Tryz.ntmps206
    go_wp2_with fail
    refine (field_digits _).mono ?_
    rintro e w1 ⟨⟨bm, es, ck, rfl, hm, ha⟩, hb1⟩
    have hlk := fun c p => run_dig (S := ⟨s.toArray⟩) hm ha c p
    have Hlk := Lib.hid hlk
    clear hlk ha hm
    go_wp2_with fail
    go_loopw [5] (fun v wr => CodeRel w1 s v wr) (fun _ wr => s.length - wr.iterPos w1.heap.size)
    case atStart => exact ⟨0, 0, Nat.zero_le _, rfl, rfl, by simp, rfl⟩
    case round =>
      obtain ⟨pos, n, hpos, rfl, hd, hn, rfl⟩ := hrel
      rcases Nat.lt_or_ge pos s.length with hlt | hge
      · have hlt' : pos < (⟨s.toArray⟩ : ByteArray).size := by rw [Hsz.out]; exact hlt
        have hst := digs_step hlt hd
        have hn5 := pow_five hn (by omega)
        have hx0 : (((⟨s.toArray⟩ : ByteArray)[pos]'hlt').toNat : Int) = (s[pos].toNat : Int) := rfl
        rcases Nat.lt_or_ge s[pos].toNat 128 with h128 | h128
        · have hnx : ∀ ty, (Instr.next (.pointer (some ⟨w1.heap.size, 0, none⟩)) true ty).run Tryz.prog (w1.iter ⟨s.toArray⟩ pos) = .ok (.tuple #[.bool true, .int .i64 (pos : Int), .int .i32 (s[pos].toNat : Int)]) (w1.iter ⟨s.toArray⟩ (pos + 1)) := fun ty => by
            rw [run_next_any w1 ⟨s.toArray⟩ pos ty hlt', decode_ascii ⟨s.toArray⟩ pos hlt' h128]; rfl
          have hlk := Hlk.out (s[pos].toNat : Int) (pos + 1)
          have hdb := digI_byte s[pos]
          rcases hdn : digN s[pos] with _ | d
          · rw [hdn] at hst hdb
            simp only [Option.map_none] at hdb
            rw [hdb] at hlk
            simp only [Option.getD_none, Option.isSome_none] at hlk
            have hfin : R = none := by rw [← HR.out, hst]
            have Hf := Lib.hid hfin
            clear hst hdb hdn hd hn hfin
            go_wp2_with fail
            go_ret2
            exact ⟨by rw [Hf.out]; rfl, hb1.trans ((Below.refl _ _).alloc hb1.size _)⟩
          · rw [hdn] at hst hdb
            simp only [Option.map_some] at hdb
            rw [hdb] at hlk
            simp only [Option.getD_some, Option.isSome_some] at hlk
            have hd16 := digN_lt hdn
            have hn' := pow_next hn hd16
            have Hn' := Lib.hid hn'
            have Hst := Lib.hid hst
            clear hst hdb hdn hd hn hn'
            go_wp2_with fail
            go_roundw
            case rel => exact ⟨pos + 1, 16 * n + d, by omega, by congr 1; omega, Hst.out.symm, Hn'.out, rfl⟩
            case measure => simp; omega
        · have hcn := decode_high ⟨s.toArray⟩ pos hlt' h128
          have hdn : digN s[pos] = none := by
            unfold digN
            rw [if_neg (by omega), if_neg (by omega), if_neg (by omega)]
          rw [hdn] at hst
          have hdi : digI (((Utf8.decode ⟨s.toArray⟩ pos).1 : Nat) : Int) = none := by
            have := hcn.1
            unfold digI
            rw [if_neg (by omega), if_neg (by omega), if_neg (by omega)]
          have hnx : ∀ ty, (Instr.next (.pointer (some ⟨w1.heap.size, 0, none⟩)) true ty).run Tryz.prog (w1.iter ⟨s.toArray⟩ pos) = .ok (.tuple #[.bool true, .int .i64 (pos : Int), .int .i32 (((Utf8.decode ⟨s.toArray⟩ pos).1 : Nat) : Int)]) (w1.iter ⟨s.toArray⟩ (pos + (Utf8.decode ⟨s.toArray⟩ pos).2)) := fun ty => run_next_any w1 ⟨s.toArray⟩ pos ty hlt'
          have hlk := Hlk.out (((Utf8.decode ⟨s.toArray⟩ pos).1 : Nat) : Int) (pos + (Utf8.decode ⟨s.toArray⟩ pos).2)
          rw [hdi] at hlk
          simp only [Option.getD_none, Option.isSome_none] at hlk
          have hfin : R = none := by rw [← HR.out, hst]
          have Hf := Lib.hid hfin
          clear hst hdn hd hn hfin hcn hdi
          generalize (Utf8.decode ⟨s.toArray⟩ pos).1 = c at *
          generalize (Utf8.decode ⟨s.toArray⟩ pos).2 = wd at *
          go_wp2_with fail
          go_ret2
          exact ⟨by rw [Hf.out]; rfl, hb1.trans ((Below.refl _ _).alloc hb1.size _)⟩
      · have hnx : ∀ ty, (Instr.next (.pointer (some ⟨w1.heap.size, 0, none⟩)) true ty).run Tryz.prog (w1.iter ⟨s.toArray⟩ pos) = .ok (.tuple #[.bool false]) (w1.iter ⟨s.toArray⟩ pos) := fun ty => run_next_end w1 ⟨s.toArray⟩ pos ty (by rw [Hsz.out]; omega)
        have hfin : R = some n := by rw [← HR.out, ← hd, List.drop_eq_nil_of_le hge]; rfl
        have Hf := Lib.hid hfin
        clear hd hn hfin
        go_wp2_with fail
        go_ret2
        exact ⟨by rw [Hf.out]; rfl, hb1.trans ((Below.refl _ _).alloc hb1.size _)⟩
end Go.Vir

