/- The reference's reach and ends: the walks. -/
import Derived.Test.YtpjhjjkkbbmnjaaGreatDoorRfA
import Derived.OwnWalk
namespace Go.Vir
open Go Go.RowKit Go.Proofs Go.Shelf
attribute [local go_sem] Oper.semAt_some

/-- A block of bools. -/
def blsA (m : Nat) (f : Nat → Bool) : Array Value := ((List.range m).map fun j => Value.bool (f j)).toArray
theorem blsA_get {m : Nat} {f : Nat → Bool} {j : Nat} (h : j < m) : (blsA m f)[j]? = some (.bool (f j)) := by simp [blsA, h]
theorem blsA_congr {m : Nat} {f g : Nat → Bool} (h : ∀ j, j < m → f j = g j) : blsA m f = blsA m g := by
  unfold blsA
  congr 1
  exact List.map_congr_left (fun j hj => by rw [h j (List.mem_range.1 hj)])
theorem blsA_set {m : Nat} {f : Nat → Bool} (j : Nat) (v : Bool) : (blsA m f).setIfInBounds j (.bool v) = blsA m (fun i => if i = j then v else f i) := by
  apply Array.ext_getElem?
  intro i
  rw [Array.getElem?_setIfInBounds]
  by_cases hi : i < m
  · rw [blsA_get hi]
    by_cases e : j = i
    · subst e
      have : j < (blsA m f).size := by simp [blsA, hi]
      rw [blsA_get hi]
      simp [this]
    · rw [if_neg e, blsA_get hi, if_neg (Ne.symm e)]
  · have h1 : (blsA m f)[i]? = none := by simp [blsA, hi]
    have h2 : (blsA m fun i => if i = j then v else f i)[i]? = none := by simp [blsA, hi]
    rw [h1, h2]
    by_cases e : j = i
    · subst e
      have : ¬ j < (blsA m f).size := by simp [blsA, hi]
      simp [this]
    · rw [if_neg e]

theorem bool_info : (Tryz.prog.info? 4).map (fun i => (i.zero, i.size, i.bytes)) = some (some (.bool false), 1, 1) := by kernel_rfl

/-- A made row of bools, as a block. -/
theorem made_bls {w : World} {base g m : Nat} (h : w.ownsRow base 4 1 (.slice (some ⟨g, 0, none⟩) m m) m (madeCells (Value.bool false).cells (m * 1)).toList) :
    w.heap[g]? = some (.cells (blsA m fun _ => false) 4 (0, 0)) := by
  rcases h.2 with ⟨e, _⟩ | ⟨g', cap, cur, e, _, hg, _, _, hs, ht⟩
  · cases e
  · injection e with e1 _ e3
    injection e1 with e1
    injection e1 with e1 _ _
    subst e1
    subst e3
    rw [hg]
    have h1 : cur.toList = (madeCells (Value.bool false).cells (m * 1)).toList := by
      rw [← ht, List.take_of_length_le (by simp [hs])]
    have h2 : cur = blsA m fun _ => false := by
      apply Array.toList_inj.1
      rw [h1]
      have h0 : (madeCells (Value.bool false).cells (m * 1)).size = m := by simp [madeCells, Value.cells]
      apply List.ext_getElem
      · rw [Array.length_toList, h0]; simp [blsA]
      · intro i a b
        have hi : i < m := by rw [Array.length_toList, h0] at a; exact a
        simp [blsA, madeCells, Value.cells, Nat.mod_one]
    rw [h2]

def outAt (F b : Nat → Bool) (h : Int) (i j : Nat) : Bool := if j < i then rchO F b h j else if j = i then (rchP F b h i).1 else false
def halfAt (F b : Nat → Bool) (h : Int) (i j : Nat) : Bool := if j ≤ i then (rchP F b h j).2 else false

/-- How reach ends. -/
def RchEnd (n : Nat) (G : Nat → Bool) (e : Ending) (w' : World) : Prop := ∃ gb go gc, e = .returned (.slice (some ⟨gb, go, none⟩) (n + 1) gc) ∧ gb < w'.heap.size ∧ ∀ j, j ≤ n → w'.cell? ⟨gb, go + j, none⟩ = some (.bool (G j))

theorem half_zero {F b : Nat → Bool} {h : Int} (hne : ¬ h = 2) : ∀ j, (rchP F b h j).2 = false
  | 0 => rfl
  | j + 1 => by
    have : (h == 2) = false := by simpa using hne
    simp [rchP, this]


theorem next_out {F b : Nat → Bool} {h : Int} {k : Nat} {v : Bool} (hv : v = (rchP F b h (k + 1)).1) (j : Nat) : (if j = k + 1 then v else if j = k then rchO F b h k else outAt F b h k j) = outAt F b h (k + 1) j := by
  unfold outAt
  by_cases h1 : j = k + 1
  · subst h1; simp [hv]
  · by_cases h2 : j = k
    · subst h2; simp
    · by_cases h3 : j < k
      · simp [h1, h2, h3, show j < k + 1 by omega]
      · simp [h1, h2, h3, show ¬ j < k + 1 by omega]
theorem next_out0 {F b : Nat → Bool} {h : Int} {k : Nat} (j : Nat) (hv : j ≠ k + 1 ∨ (rchP F b h (k + 1)).1 = false) : (if j = k then rchO F b h k else outAt F b h k j) = outAt F b h (k + 1) j := by
  have := next_out (F := F) (b := b) (h := h) (k := k) rfl j
  by_cases h1 : j = k + 1
  · rw [← this, if_pos h1, if_neg (by omega)]
    rcases hv with hv | hv
    · exact absurd h1 hv
    · rw [hv]; unfold outAt; rw [if_neg (by omega), if_neg (by omega)]
  · rw [← this, if_neg h1]
theorem next_half {F b : Nat → Bool} {h : Int} {k : Nat} {v : Bool} (hv : v = (rchP F b h (k + 1)).2) (j : Nat) : (if j = k + 1 then v else halfAt F b h k j) = halfAt F b h (k + 1) j := by
  unfold halfAt
  by_cases h1 : j = k + 1
  · subst h1; simp [hv]
  · by_cases h3 : j ≤ k
    · simp [h1, h3, show j ≤ k + 1 by omega]
    · simp [h1, h3, show ¬ j ≤ k + 1 by omega]
theorem next_half0 {F b : Nat → Bool} {h : Int} {k : Nat} (j : Nat) (hv : j ≠ k + 1 ∨ (rchP F b h (k + 1)).2 = false) : halfAt F b h k j = halfAt F b h (k + 1) j := by
  have := next_half (F := F) (b := b) (h := h) (k := k) rfl j
  by_cases h1 : j = k + 1
  · rw [← this, if_pos h1]
    rcases hv with hv | hv
    · exact absurd h1 hv
    · rw [hv]; unfold halfAt; rw [if_neg (by omega)]
  · rw [← this, if_neg h1]

theorem setCell_blkB {W : World} {B : Nat} {m j : Nat} {f : Nat → Bool} {t : TypeId} (h : W.heap[B]? = some (.cells (blsA m f) t (0, 0))) (v : Bool) :
    (W.setCell ⟨B, j, none⟩ (.bool v)).heap[B]? = some (.cells (blsA m fun i => if i = j then v else f i) t (0, 0)) := by
  rw [← blsA_set]
  simp [World.setCell, Array.getElem?_modify, h]
theorem blk_congr {W : World} {B m : Nat} {f g : Nat → Bool} {t : TypeId} (h : W.heap[B]? = some (.cells (blsA m f) t (0, 0))) (e : ∀ j, j < m → f j = g j) : W.heap[B]? = some (.cells (blsA m g) t (0, 0)) := by
  rw [h, blsA_congr e]

set_option maxRecDepth 100000 in
set_option maxHeartbeats 4000000 in
theorem ref_reach (zs : List Int) : ∀ (xs : List (Int × Int)) (A B : Option Addr) (m cm n c fb fo fc : Nat) (F : Nat → Bool) (w : World), Prs w w.heap.size A m xs → m ≤ cm → Ints w w.heap.size B n zs → m ≤ 1000 → n ≤ 1000 →
    (∀ x ∈ xs, 0 ≤ x.2 ∧ x.2 ≤ 2) → fb < w.heap.size → (∀ j, j ≤ n → w.cell? ⟨fb, fo + j, none⟩ = some (.bool (F j))) →
    Calls Tryz.prog 113 #[.slice A m cm, .slice B n c, .slice (some ⟨fb, fo, none⟩) (n + 1) fc] w fun e w' => RchEnd n (reachL zs xs F) e w' ∧ Below w.heap.size w w' := by
  intro xs
  induction xs with
  | nil =>
    intro A B m cm n c fb fo fc F w hx hcm hz hm hn hr hfb hF
    obtain rfl : m = 0 := by simpa using hx.len.symm
    have HF := Lib.hid hF
    clear hF
    go_enter Tryz.func113, Tryz.ntmps113
    go_wp2_with fail
    go_ret
    exact ⟨⟨fb, fo, fc, rfl, hfb, HF.out⟩, Below.refl _ _⟩
  | cons x xs ih =>
    intro A B m cm n c fb fo fc F w hx hcm hz hm hn hr hfb hF
    have hxl := hx.len
    simp only [List.length_cons] at hxl
    obtain ⟨xb, xo, rfl, hxb, hxc⟩ := hx.at_ (by omega)
    have hx0 := hxc 0 (by simp)
    simp only [List.getElem_cons_zero, Nat.zero_mul, Nat.add_zero] at hx0
    obtain ⟨z1, z2⟩ := hx0
    obtain ⟨h0, h2⟩ := hr x (by simp)
    obtain ⟨i0, hi0, hz0, hz1, hz2⟩ := info_parts bool_info
    have hm0 : ((m : Int) == 0) = false := by rw [beq_eq_false_iff_ne]; omega
    have Hx := Lib.hid hx
    have Hxc := Lib.hid hxc
    have Hz := Lib.hid hz
    have Hr := Lib.hid hr
    have HF := Lib.hid hF
    have Hih := Lib.hid ih
    have Hxl := Lib.hid hxl
    have Hzl := Lib.hid hz.len
    have hmp : 0 < m := by omega
    clear hx hxc hz hr hF ih hxl
    obtain ⟨s, h⟩ := x
    simp only at z1 z2 h0 h2
    go_enter Tryz.func113, Tryz.ntmps113
    have tok1 : True := trivial
    have tok2 : True := trivial
    go_wp2_with (first
      | (at_make; have _t := tok1; refine wpList_make_full _ rfl (.tmp 20) (.tmp 20) 92 rfl w.heap.size 4 i0 (.bool false) 1 Tryz.underlying92 hi0 hz0 hz1 .i64 .i64 ((n : Int) + 1) ((n : Int) + 1) (n + 1) rfl rfl (by omega) (by omega) (by rw [hz2]; omega) (by simp only [maxLen]; omega) (by simp) ?_; intro w1 hown1 hgrow1; clear tok1)
      | (at_make; have _t := tok2; refine wpList_make_full _ rfl (.tmp 24) (.tmp 24) 92 rfl w.heap.size 4 i0 (.bool false) 1 Tryz.underlying92 hi0 hz0 hz1 .i64 .i64 ((n : Int) + 1) ((n : Int) + 1) (n + 1) rfl rfl (by omega) (by omega) (by rw [hz2]; omega) (by simp only [maxLen]; omega) (by have := hgrow1.size; simp at this; omega) ?_; intro w2 hown2 hgrow2; clear tok2))
    have d0 : w2.heap[w.heap.size]? = some (.cells #[.int .i64 s, .int .i64 h] 70 (0, 0)) := by
      rw [hgrow2.block _ (by have := hgrow1.size; simp at this; omega) (by simp), hgrow1.block _ (by simp) (by simp)]; exact heap_new rfl
    have d1 : w2.heap[w.heap.size + 1]? = some (.cells (blsA (n + 1) fun _ => false) 4 (0, 0)) := by
      have h1 := made_bls hown1
      simp only [World.size_alloc] at h1
      rw [hgrow2.block _ (Array.getElem?_eq_some_iff.1 h1).1 (by simp)]; exact h1
    have d2 : w2.heap[w1.heap.size]? = some (.cells (blsA (n + 1) fun _ => false) 4 (0, 0)) := made_bls hown2
    have hob : w.heap.size + 1 < w1.heap.size := (Array.getElem?_eq_some_iff.1 (made_bls hown1)).1 |> fun h => by simpa using h
    have hbel : Below w.heap.size w w2 := (((Below.refl _ w).alloc (Nat.le_refl _) _).grown hgrow1 (by simp) (fun g hg => by cases hg)).grown hgrow2 (by omega) (fun g hg => by cases hg)
    clear hown1 hown2 hgrow1 hgrow2 _t
    obtain ⟨hbk, hhb⟩ : ∃ q, q = w1.heap.size := ⟨_, rfl⟩
    rw [← hhb] at d2 hob
    rw [← hhb]
    clear hhb
    obtain ⟨bf, hbf⟩ : ∃ bf : Nat → Bool, bf = fun i => bitB s (zs.getD i 0) := ⟨_, rfl⟩
    have Hbf := Lib.hid hbf
    clear hbf
    go_loopw [10] (fun i wr => ∃ k : Nat, k ≤ n + 1 ∧ i = .int .i64 (k : Int) ∧ Below w.heap.size w wr ∧ wr.heap[w.heap.size]? = some (.cells #[.int .i64 s, .int .i64 h] 70 (0, 0)) ∧
      wr.heap[w.heap.size + 1]? = some (.cells (blsA (n + 1) (outAt F bf h k)) 4 (0, 0)) ∧ wr.heap[hbk]? = some (.cells (blsA (n + 1) (halfAt F bf h k)) 4 (0, 0))) (fun i _ => n + 1 - (RowKit.intOf i).toNat)
    case atStart =>
      refine ⟨0, Nat.zero_le _, rfl, hbel, d0, blk_congr d1 (fun j _ => ?_), blk_congr d2 (fun j _ => ?_)⟩
      · unfold outAt
        by_cases hj : j = 0
        · subst hj; simp [rchP]
        · simp [hj]
      · unfold halfAt
        by_cases hj : j = 0
        · subst hj; simp [rchP]
        · simp [hj]
    case round =>
      obtain ⟨k, hk, rfl, hb, e0, e1, e2⟩ := hrel
      have hob2 : hbk < wr.heap.size := (Array.getElem?_eq_some_iff.1 e2).1
      rcases Nat.lt_or_ge n k with hge | hle
      · obtain rfl : k = n + 1 := by omega
        have hcells : ∀ j, j ≤ n → wr.cell? ⟨w.heap.size + 1, 0 + j, none⟩ = some (.bool (rchO F bf h j)) := fun j hj => by
          have := cell_blk e1 j
          rw [blsA_get (by omega)] at this
          rw [Nat.zero_add, this]; unfold outAt; rw [if_pos (by omega)]
        have hrx : ∀ x ∈ xs, 0 ≤ x.2 ∧ x.2 ≤ 2 := fun y hy => Hr.out y (List.mem_cons_of_mem _ hy)
        have hzw := (Hz.out.below hb).more hb.size
        have Hcells := Lib.hid hcells
        have Hrx := Lib.hid hrx
        clear hcells hrx e0 e1 e2
        have hfin : ∀ (A' : Option Addr) (cm' : Nat), m - 1 ≤ cm' → Prs wr wr.heap.size A' (m - 1) xs → Calls Tryz.prog 113 #[.slice A' (m - 1) cm', .slice B n c, .slice (some ⟨w.heap.size + 1, 0, none⟩) (n + 1) (n + 1)] wr fun e w' => RchEnd n (reachL zs ((s, h) :: xs) F) e w' ∧ Below wr.heap.size wr w' := fun A' cm' hA hp => by
          have e := Hbf.out
          subst e
          exact Hih.out A' B (m - 1) cm' n c _ 0 _ _ wr hp hA hzw (by omega) hn Hrx.out (by omega) Hcells.out
        have ht1 : cm = 1 → Prs wr wr.heap.size (some ⟨xb, xo, none⟩) (m - 1) xs := fun e => by
          have hm1 : m = 1 := by omega
          have hxs : xs = [] := List.eq_nil_of_length_eq_zero (by have := Hxl.out; omega)
          exact ⟨by rw [hxs, hm1]; rfl, fun h => absurd h (by omega)⟩
        have ht2 : Prs wr wr.heap.size (some ⟨xb, xo + 2, none⟩) (m - 1) xs :=
          ⟨by have := Hxl.out; omega, fun _ => ⟨xb, xo + 2, rfl, Nat.lt_of_lt_of_le hxb hb.size, fun j hj => by
            have := Hxc.out (j + 1) (by simpa using hj)
            simp only [List.getElem_cons_succ] at this
            rw [show xo + 2 + j * 2 = xo + (j + 1) * 2 by omega]
            exact ⟨(cellOf hb hxb).trans this.1, (cellOf hb hxb).trans this.2⟩⟩⟩
        have Hfin := Lib.hid hfin
        have Ht1 := Lib.hid ht1
        clear hfin ht1
        rcases Nat.decEq cm 1 with hc1 | hc1
        · go_wp2_with fail
          refine (Hfin.out _ _ (by omega) ht2).mono ?_
          rintro e w3 ⟨⟨gb, go, gc, rfl, hg, hgc⟩, hb3⟩
          have Hgc := Lib.hid hgc
          clear hgc
          go_wp2_with fail
          go_ret
          exact ⟨⟨gb, go, gc, rfl, hg, Hgc.out⟩, hb.trans (hb3.mono hb.size)⟩
        · have hp1 := Ht1.out hc1
          have hm1 : m = 1 := by omega
          clear Ht1 Hxc Hx z1 z2 ht2 d0 d1 d2 hbel
          subst hc1
          subst hm1
          clear hcm hmp hm hm0
          go_wp2_with fail
          refine (Hfin.out _ _ (by omega) hp1).mono ?_
          rintro e w3 ⟨⟨gb, go, gc, rfl, hg, hgc⟩, hb3⟩
          have Hgc := Lib.hid hgc
          clear hgc
          go_wp2_with fail
          go_ret
          exact ⟨⟨gb, go, gc, rfl, hg, Hgc.out⟩, hb.trans (hb3.mono hb.size)⟩
      · have x1 : wr.cell? ⟨w.heap.size, 1, none⟩ = some (.int .i64 h) := cell_blk e0 1
        have o0 : wr.cell? ⟨w.heap.size + 1, k, none⟩ = some (.bool (rchP F bf h k).1) := by
          have := cell_blk e1 k
          rw [blsA_get (by omega)] at this
          rw [this]; simp [outAt]
        have of : wr.frozen? ⟨w.heap.size + 1, k, none⟩ = false := frozen_blk e1 k
        have f0 := (cellOf hb hfb).trans (HF.out k hle)
        have hO : rchO F bf h k = ((rchP F bf h k).1 || (F k && !(h == 0))) := rfl
        have HO := Lib.hid hO
        clear hO
        go_upto_region 9 with fail
        go_cut [] (fun wx => wx = wr.setCell ⟨w.heap.size + 1, k, none⟩ (.bool (rchO F bf h k)))
        case first =>
          rcases hp : (rchP F bf h k).1 with _ | _
          · rcases hf : F k with _ | _
            · rw [hp] at o0
              rw [hf] at f0
              have hv : rchO F bf h k = false := by rw [HO.out, hp, hf]; rfl
              have Hv := Lib.hid hv
              clear hp hf hv
              go_wp2
              go_meet
              rw [Hv.out]
            · rw [hp] at o0
              rw [hf] at f0
              have hv : rchO F bf h k = !(h == 0) := by rw [HO.out, hp, hf]; rfl
              have Hv := Lib.hid hv
              clear hp hf hv
              rcases hh : (h == 0) with _ | _
              · have hh2 : (h != 0) = true := by simpa using hh
                rw [hh] at Hv
                clear hh
                go_wp2
                go_meet
                rw [Hv.out]; rfl
              · have hh2 : (h != 0) = false := by simpa using hh
                rw [hh] at Hv
                clear hh
                go_wp2
                go_meet
                rw [Hv.out]; rfl
          · rw [hp] at o0
            have hv : rchO F bf h k = true := by rw [HO.out, hp]; rfl
            have Hv := Lib.hid hv
            clear hp hv
            go_wp2
            go_meet
            rw [Hv.out]
        case rest =>
          have g0 : wc.heap[w.heap.size]? = some (.cells #[.int .i64 s, .int .i64 h] 70 (0, 0)) := by
            rw [hcut, Below.heap_setCell _ _ _ _ (by simp)]; exact e0
          have g1 : wc.heap[w.heap.size + 1]? = some (.cells (blsA (n + 1) fun j => if j = k then rchO F bf h k else outAt F bf h k j) 4 (0, 0)) := by
            rw [hcut]; exact setCell_blkB e1 _
          have g2 : wc.heap[hbk]? = some (.cells (blsA (n + 1) (halfAt F bf h k)) 4 (0, 0)) := by
            rw [hcut, Below.heap_setCell _ _ _ _ (by simp; omega)]; exact e2
          have hbw : Below w.heap.size w wc := by rw [hcut]; exact hb.setCell (p := ⟨w.heap.size + 1, k, none⟩) (by simp) _
          clear hcut HO o0 of f0 x1 e0 e1 e2 hb hob2
          have x0 : wc.cell? ⟨w.heap.size, 0, none⟩ = some (.int .i64 s) := cell_blk g0 0
          have x1 : wc.cell? ⟨w.heap.size, 1, none⟩ = some (.int .i64 h) := cell_blk g0 1
          rcases Nat.lt_or_ge k n with hlt | hge2
          · obtain ⟨zb, zo, rfl, hzb, hzc⟩ := Hz.out.at_ (by omega)
            have hkz : k < zs.length := by rw [Hzl.out]; exact hlt
            have zc := (cellOf hbw hzb).trans (hzc k hkz)
            have hbit : bf k = bitB s zs[k] := by rw [Hbf.out]; simp [List.getD_eq_getElem?_getD, hkz]
            have Hbit := Lib.hid hbit
            have hdec : ((k : Int) == (n : Int)) = false := by rw [beq_eq_false_iff_ne]; omega
            clear hbit hzc
            generalize zs[k] = z at zc Hbit
            go_upto_region 10 with fail
            go_quiet ((go_at_call 139; exact Calls.quiet_of_same ((ref_Has8 _ _ _).mono fun _ _ ⟨h1, h2⟩ => ⟨h1, h2.symm⟩)))
            clear hdec zc x0 x1
            have q0 : (wc.drewN nq).heap[w.heap.size]? = some (.cells #[.int .i64 s, .int .i64 h] 70 (0, 0)) := g0
            have q1 : (wc.drewN nq).heap[w.heap.size + 1]? = some (.cells (blsA (n + 1) fun j => if j = k then rchO F bf h k else outAt F bf h k j) 4 (0, 0)) := g1
            have q2 : (wc.drewN nq).heap[hbk]? = some (.cells (blsA (n + 1) (halfAt F bf h k)) 4 (0, 0)) := g2
            have hbW : Below w.heap.size w (wc.drewN nq) := hbw.trans (below_drewN _ _ _)
            clear g0 g1 g2 hbw
            generalize wc.drewN nq = W at *
            rcases hb1 : bitB s z with _ | _
            · have hp1 : (rchP F bf h (k + 1)).1 = false := by rw [rchP, Hbit.out, hb1]; rfl
              have hp2 : (rchP F bf h (k + 1)).2 = false := by rw [rchP, Hbit.out, hb1]; rfl
              have r1 := blk_congr q1 (g := outAt F bf h (k + 1)) (fun j _ => next_out0 j (.inr hp1))
              have r2 := blk_congr q2 (g := halfAt F bf h (k + 1)) (fun j _ => next_half0 j (.inr hp2))
              clear hp1 hp2 hb1
              go_wp2
              go_roundw
              case rel => exact ⟨k + 1, by omega, by go_num, hbW, q0, r1, r2⟩
              case measure => simp [RowKit.intOf]; omega
            · have hbt : bf k = true := by rw [Hbit.out, hb1]
              have Hbt := Lib.hid hbt
              have y1 : W.cell? ⟨w.heap.size, 1, none⟩ = some (.int .i64 h) := cell_blk q0 1
              have yf : W.cell? ⟨fb, fo + k, none⟩ = some (.bool (F k)) := (cellOf hbW hfb).trans (HF.out k hle)
              have yo : W.cell? ⟨w.heap.size + 1, k, none⟩ = some (.bool (rchO F bf h k)) := by
                have := cell_blk q1 k
                rw [blsA_get (by omega)] at this
                rw [this]; simp
              have yh : W.cell? ⟨hbk, k, none⟩ = some (.bool (rchP F bf h k).2) := by
                have := cell_blk q2 k
                rw [blsA_get (by omega)] at this
                rw [this]; simp [halfAt]
              have z1 : W.frozen? ⟨w.heap.size + 1, k + 1, none⟩ = false := frozen_blk q1 _
              have z2 : W.frozen? ⟨hbk, k + 1, none⟩ = false := frozen_blk q2 _
              have zd1 : W.cell? ⟨w.heap.size + 1, k + 1, none⟩ = some (.bool false) := by
                have := cell_blk q1 (k + 1)
                rw [blsA_get (by omega)] at this
                rw [this, if_neg (by omega)]; unfold outAt; rw [if_neg (by omega), if_neg (by omega)]
              have zd2 : W.cell? ⟨hbk, k + 1, none⟩ = some (.bool false) := by
                have := cell_blk q2 (k + 1)
                rw [blsA_get (by omega)] at this
                rw [this]; unfold halfAt; rw [if_neg (by omega)]
              clear hbt hb1 Hbit
              have hhb : ¬ hbk = w.heap.size + 1 := by omega
              have hhb2 : ¬ w.heap.size + 1 = hbk := by omega
              obtain rfl | rfl | rfl : h = 0 ∨ h = 1 ∨ h = 2 := by omega
              · have hp1 : F k = (rchP F bf 0 (k + 1)).1 := by rw [rchP, Hbt.out, if_pos rfl]; rfl
                have hp2 : (rchP F bf 0 (k + 1)).2 = false := half_zero (by decide) _
                have r1 := blk_congr (setCell_blkB (j := k + 1) q1 (F k)) (g := outAt F bf 0 (k + 1)) (fun j _ => next_out hp1 j)
                have r2 := blk_congr q2 (g := halfAt F bf 0 (k + 1)) (fun j _ => next_half0 j (.inr hp2))
                have r3 : (W.setCell ⟨w.heap.size + 1, k + 1, none⟩ (.bool (F k))).heap[hbk]? = some (.cells (blsA (n + 1) (halfAt F bf 0 (k + 1))) 4 (0, 0)) := by
                  rw [Below.heap_setCell _ _ _ _ hhb]; exact r2
                have r4 : (W.setCell ⟨w.heap.size + 1, k + 1, none⟩ (.bool (F k))).heap[w.heap.size]? = some (.cells #[.int .i64 s, .int .i64 0] 70 (0, 0)) := by
                  rw [Below.heap_setCell _ _ _ _ (by simp)]; exact q0
                clear hp1 hp2 r2
                go_wp2
                go_roundw
                case rel => exact ⟨k + 1, by omega, by go_num, hbW.setCell (p := ⟨w.heap.size + 1, k + 1, none⟩) (by simp) _, r4, r1, r3⟩
                case measure => simp [RowKit.intOf]; omega
              · have hp1 : rchO F bf 1 k = (rchP F bf 1 (k + 1)).1 := by rw [rchP, Hbt.out, if_neg (by decide), if_pos rfl]; rfl
                have hp2 : (rchP F bf 1 (k + 1)).2 = false := half_zero (by decide) _
                have r1 := blk_congr (setCell_blkB (j := k + 1) q1 (rchO F bf 1 k)) (g := outAt F bf 1 (k + 1)) (fun j _ => next_out hp1 j)
                have r2 := blk_congr q2 (g := halfAt F bf 1 (k + 1)) (fun j _ => next_half0 j (.inr hp2))
                have r3 : (W.setCell ⟨w.heap.size + 1, k + 1, none⟩ (.bool (rchO F bf 1 k))).heap[hbk]? = some (.cells (blsA (n + 1) (halfAt F bf 1 (k + 1))) 4 (0, 0)) := by
                  rw [Below.heap_setCell _ _ _ _ hhb]; exact r2
                have r4 : (W.setCell ⟨w.heap.size + 1, k + 1, none⟩ (.bool (rchO F bf 1 k))).heap[w.heap.size]? = some (.cells #[.int .i64 s, .int .i64 1] 70 (0, 0)) := by
                  rw [Below.heap_setCell _ _ _ _ (by simp)]; exact q0
                clear hp1 hp2 r2
                go_wp2
                go_roundw
                case rel => exact ⟨k + 1, by omega, by go_num, hbW.setCell (p := ⟨w.heap.size + 1, k + 1, none⟩) (by simp) _, r4, r1, r3⟩
                case measure => simp [RowKit.intOf]; omega
              · have hp1 : (rchP F bf 2 k).2 = (rchP F bf 2 (k + 1)).1 := by
                  show _ = (bf k && _); rw [Hbt.out, if_neg (by decide), if_neg (by decide)]; rfl
                have hp2 : rchO F bf 2 k = (rchP F bf 2 (k + 1)).2 := by
                  show _ = (bf k && _); rw [Hbt.out]; rfl
                have r2 := blk_congr (setCell_blkB (j := k + 1) q2 (rchO F bf 2 k)) (g := halfAt F bf 2 (k + 1)) (fun j _ => next_half hp2 j)
                have q1' : (W.setCell ⟨hbk, k + 1, none⟩ (.bool (rchO F bf 2 k))).heap[w.heap.size + 1]? = some (.cells (blsA (n + 1) fun j => if j = k then rchO F bf 2 k else outAt F bf 2 k j) 4 (0, 0)) := by
                  rw [Below.heap_setCell _ _ _ _ hhb2]; exact q1
                have r1 := blk_congr (setCell_blkB (j := k + 1) q1' (rchP F bf 2 k).2) (g := outAt F bf 2 (k + 1)) (fun j _ => next_out hp1 j)
                have r3 : ((W.setCell ⟨hbk, k + 1, none⟩ (.bool (rchO F bf 2 k))).setCell ⟨w.heap.size + 1, k + 1, none⟩ (.bool (rchP F bf 2 k).2)).heap[hbk]? = some (.cells (blsA (n + 1) (halfAt F bf 2 (k + 1))) 4 (0, 0)) := by
                  rw [Below.heap_setCell _ _ _ _ hhb]; exact r2
                have r4 : ((W.setCell ⟨hbk, k + 1, none⟩ (.bool (rchO F bf 2 k))).setCell ⟨w.heap.size + 1, k + 1, none⟩ (.bool (rchP F bf 2 k).2)).heap[w.heap.size]? = some (.cells #[.int .i64 s, .int .i64 2] 70 (0, 0)) := by
                  rw [Below.heap_setCell _ _ _ _ (by simp), Below.heap_setCell _ _ _ _ (by simp; omega)]; exact q0
                clear hp1 hp2 r2 q1'
                go_wp2
                go_roundw
                case rel => exact ⟨k + 1, by omega, by go_num, (hbW.setCell (p := ⟨hbk, k + 1, none⟩) (by simp; omega) _).setCell (p := ⟨w.heap.size + 1, k + 1, none⟩) (by simp) _, r4, r1, r3⟩
                case measure => simp [RowKit.intOf]; omega
          · have hkn : k = n := by omega
            have hdec : ((k : Int) == (n : Int)) = true := by rw [beq_iff_eq]; omega
            have r1 := blk_congr g1 (g := outAt F bf h (k + 1)) (fun j hj => next_out0 j (.inl (by omega)))
            have r2 := blk_congr g2 (g := halfAt F bf h (k + 1)) (fun j hj => next_half0 j (.inl (by omega)))
            have Hkn := Lib.hid hkn
            clear hkn
            go_upto_region 10 with fail
            go_quiet (fail)
            have q0 : (wc.drewN nq).heap[w.heap.size]? = some (.cells #[.int .i64 s, .int .i64 h] 70 (0, 0)) := g0
            have q1 : (wc.drewN nq).heap[w.heap.size + 1]? = some (.cells (blsA (n + 1) (outAt F bf h (k + 1))) 4 (0, 0)) := r1
            have q2 : (wc.drewN nq).heap[hbk]? = some (.cells (blsA (n + 1) (halfAt F bf h (k + 1))) 4 (0, 0)) := r2
            have hbW : Below w.heap.size w (wc.drewN nq) := hbw.trans (below_drewN _ _ _)
            clear hdec g0 g1 g2 r1 r2 hbw
            go_wp2
            go_roundw
            case rel => exact ⟨k + 1, by have := Hkn.out; omega, by go_num, hbW, q0, q1, q2⟩
            case measure => simp [RowKit.intOf]; omega

end Go.Vir
