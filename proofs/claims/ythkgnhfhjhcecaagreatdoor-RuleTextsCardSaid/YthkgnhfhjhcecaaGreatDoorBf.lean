/- Joined texts: WkV, Sub, SamA, RlD, RlE, Mrk, MrkB. -/
import Derived.Test.YthkgnhfhjhcecaaGreatDoorBe
import Derived.Test.YthkgnhfhjhcecaaGreatDoorBc
import Derived.Test.YthkgnhfhjhcecaaGreatDoorBa
import Derived.Deep.RegionLaw
import Derived.Laws.StructEq
import Derived.Maps.RangeRun
import Derived.Maps.RangeWalk
/- pattern: Parse. -/
namespace Go.Vir
open Go Go.RowKit Go.Proofs Go.Shelf
attribute [local go_sem] Oper.semAt_some

/-- The items of parts. -/
def itemsB (ss : List (List UInt8)) : List (List UInt8) → List (Int × Int) → Option (List (Int × Int))
  | [], acc => some acc
  | t :: ts, acc => match itemPB t ss with
    | none => none
    | some x => if acc.length = 10 then none else itemsB ss ts (acc ++ [x])
/-- A text's pattern, and why there is none. -/
def parsePB (s : List UInt8) (ss : List (List UInt8)) : (Bool × List (Int × Int)) × Int :=
  if namesB ss = false then ((false, []), 2)
  else if s = [] then ((false, []), 0)
  else if s.any badB = true then ((false, []), 80)
  else match itemsB ss (if (partsA s).head? = some [94] then (partsA s).tail else partsA s) [] with
    | some xs => ((decide ((partsA s).head? = some [94]), xs), 0)
    | none => ((false, []), 80)

/-- How the reading of a pattern ends. -/
def PatEnd (r : (Bool × List (Int × Int)) × Int) (e : Ending) (w' : World) : Prop := ∃ A n c, e = .returned (.tuple #[.agg #[.bool r.1.1, .slice A n c], .int .i64 r.2]) ∧ Prs w' w'.heap.size A n r.1.2 ∧ n ≤ 10

/-- Likewise, and the items lie in a block that was not there before. -/
def PatEndF (B0 : Nat) (r : (Bool × List (Int × Int)) × Int) (e : Ending) (w' : World) : Prop := ∃ A n c, e = .returned (.tuple #[.agg #[.bool r.1.1, .slice A n c], .int .i64 r.2]) ∧ Prs w' w'.heap.size A n r.1.2 ∧ n ≤ 10 ∧ (0 < n → ∃ b o, A = some ⟨b, o, none⟩ ∧ B0 ≤ b)
theorem own_fresh {W : World} {base B0 size n c : Nat} {e : TypeId} {A : Option Addr} {xs : List Value} {m : Nat} (h : W.ownsRow base e size (.slice A n c) m xs) (hB : B0 ≤ base) : 0 < n → ∃ b o, A = some ⟨b, o, none⟩ ∧ B0 ≤ b := by
  intro hn
  rcases h.2 with ⟨h1, _⟩ | ⟨g, cap, cur, h1, hg, _⟩
  · injection h1 with _ h2 _; omega
  · injection h1 with h2 _ _; exact ⟨g, 0, h2, by omega⟩

theorem marksA_len : ∀ (i : Bool) (l : List UInt8), (marksA i l).length = l.length
  | _, [] => rfl
  | i, b :: t => by simp [marksA, marksA_len _ t]
theorem not_bad_ascii {s : List UInt8} (h : s.any badB = false) : asciiB s = true := by
  unfold asciiB
  rw [List.all_eq_true]
  intro b hb
  have h1 : badB b = false := by
    cases hh : badB b with
    | false => rfl
    | true => rw [List.any_eq_false] at h; exact absurd hh (h b hb)
  simp only [badB, Bool.or_eq_false_iff, decide_eq_false_iff_not] at h1
  simp; omega

theorem item_info : (Tryz.prog.info? 167).map (fun i => (i.zero, i.size, i.bytes)) = some (some (.agg #[.int .i64 0, .int .i64 0]), 2, 16) := by kernel_rfl
theorem cell_two_at (w : World) (a b : Value) (t : TypeId) : ∀ j u, [a, b][j]? = some u → (w.alloc (.cells #[a, b] t)).cell? ((⟨w.heap.size, 0, none⟩ : Addr).add j) = some u := by
  intro j u hj
  match j, hj with
  | 0, hj => simp at hj; subst hj; simp [Addr.add]
  | 1, hj => simp at hj; subst hj; simp [Addr.add]
  | j + 2, hj => simp at hj
def itemVs (l : List (Int × Int)) : List Value := l.flatMap fun x => [.int .i64 x.1, .int .i64 x.2]
theorem itemVs_len (l : List (Int × Int)) : (itemVs l).length = l.length * 2 := by
  induction l with
  | nil => rfl
  | cons x t ih => simp only [itemVs, List.flatMap_cons, List.length_append, List.length_cons, List.length_nil] at ih ⊢; omega
theorem itemVs_app (l : List (Int × Int)) (x : Int × Int) : itemVs (l ++ [x]) = itemVs l ++ [.int .i64 x.1, .int .i64 x.2] := by simp [itemVs]
theorem itemVs_get : ∀ (l : List (Int × Int)) (j : Nat) (h : j < l.length), (itemVs l)[j * 2]? = some (.int .i64 l[j].1) ∧ (itemVs l)[j * 2 + 1]? = some (.int .i64 l[j].2)
  | x :: t, 0, _ => ⟨rfl, rfl⟩
  | x :: t, j + 1, h => by
    have := itemVs_get t j (by simpa using h)
    rw [show (j + 1) * 2 = j * 2 + 2 by omega]
    exact this
theorem prs_own {W : World} {base : Nat} {v : Value} {l : List (Int × Int)} (h : W.ownsRow base 167 2 v l.length (itemVs l)) : ∃ A n c, v = .slice A n c ∧ n = l.length ∧ Prs W W.heap.size A n l := by
  rcases h.2 with ⟨rfl, h2⟩ | ⟨g, cap, cur, rfl, _, hgb, hcap, _, hcs, ht⟩
  · obtain rfl : l = [] := List.eq_nil_of_length_eq_zero h2
    exact ⟨_, _, _, rfl, rfl, Prs.nil _ _ _⟩
  · refine ⟨_, _, _, rfl, rfl, rfl, fun _ => ⟨g, 0, rfl, (Array.getElem?_eq_some_iff.1 hgb).1, fun j hj => ?_⟩⟩
    obtain ⟨h1, h2⟩ := itemVs_get l j hj
    rw [← ht, List.getElem?_take] at h1 h2
    simp only [World.cell?, hgb, Nat.zero_add]
    constructor
    · split at h1
      · simpa using h1
      · cases h1
    · split at h2
      · simpa using h2
      · cases h2
theorem items_le {ss : List (List UInt8)} : ∀ (ts : List (List UInt8)) (acc xs : List (Int × Int)), acc.length ≤ 10 → itemsB ss ts acc = some xs → xs.length ≤ 10
  | [], acc, xs, h, e => by simp [itemsB] at e; subst e; exact h
  | t :: ts, acc, xs, h, e => by
    unfold itemsB at e
    split at e
    · cases e
    · split at e
      · cases e
      · exact items_le ts _ xs (by simp; omega) e

theorem kept22 {w w1 : World} {a b c d : Value} {t : TypeId} (hb : Below ((w.alloc (.cells #[a, b] t)).alloc (.cells #[c, d] t)).heap.size ((w.alloc (.cells #[a, b] t)).alloc (.cells #[c, d] t)) w1) :
    w1.heap[w.heap.size]? = some (.cells #[a, b] t (0, 0)) ∧ w1.heap[w.heap.size + 1]? = some (.cells #[c, d] t (0, 0)) ∧ Below w.heap.size w w1 := by
  have h1 := hb.block w.heap.size (by simp; omega)
  have h2 := hb.block (w.heap.size + 1) (by simp)
  refine ⟨h1.trans ((heap_old (by simp)).trans (heap_new rfl)), h2.trans (heap_new (by simp)), Below.trans (by go_grown) (hb.mono (by simp; omega))⟩

set_option maxRecDepth 100000 in
set_option maxHeartbeats 1600000 in
theorem pattern_ParseF (s : List UInt8) (A : Option Addr) (n c : Nat) (ss : List (List UInt8)) (w : World) (hG : Globs w) (hn : n ≤ 1000000) (hz : Strs w w.heap.size A n ss) (hs : ∀ x ∈ ss, x.length ≤ 1000) (hl : s.length ≤ 100000) :
    Calls Tryz.prog 71 #[.string ⟨s.toArray⟩, .slice A n c] w fun e w' => PatEndF w.heap.size (parsePB s ss) e w' ∧ Below w.heap.size w w' := by
  have hs' : ∀ x ∈ ss, x.length ≤ 1000000 := fun x hx => by have := hs x hx; omega
  have hpa := fun W (hW : Below w.heap.size w W) => pattern_parts ⟨s.toArray⟩ W (hG.below hW) (by show s.toArray.size ≤ _; simpa using hl)
  have hnm := fun W (hW : Below w.heap.size w W) => prop_Names A n c ss W hn ((hz.below hW).more hW.size) hs'
  have hgs := hG.size
  have Hpa := Lib.hid hpa
  have Hnm := Lib.hid hnm
  clear hpa hnm hs'
  go_enter Tryz.func71, Tryz.ntmps71
  go_wp2_with fail
  refine wp_scope_once ?_
  generalize hQl : landed _ _ _ = Ql
  go_wp2_with fail
  refine (Hpa.out _ (by go_grown)).mono ?_
  rintro e w2 ⟨⟨A2, n2, l, rfl, hS2, hne, hn2, hasc⟩, hb2⟩
  obtain ⟨q0, q1, hb3⟩ := kept22 hb2
  have hl2 := hS2.len
  have Hl2 := Lib.hid hl2
  have Hasc := Lib.hid hasc
  have Hne := Lib.hid hne
  have hn2p : 0 < n2 := by rw [← hl2]; exact List.length_pos_iff.2 hne
  clear hl2 hasc hb2 hne
  go_wp2_with fail
  refine (Hnm.out _ hb3).mono ?_
  rintro e w3 ⟨rfl, hb4⟩
  have hb5 : Below w.heap.size w w3 := hb3.trans (hb4.mono hb3.size)
  have hs2 := (Array.getElem?_eq_some_iff.1 q0).1
  have hs3 := (Array.getElem?_eq_some_iff.1 q1).1
  have r0 := (hb4.block _ hs2).trans q0
  have r1 := (hb4.block _ hs3).trans q1
  have hS3 := (hS2.below hb4).more hb4.size
  have hG3 := hG.below hb5
  clear q0 q1 hb3 hS2 hs2 hs3 hb4
  have k00 := cell_blk r0 0
  have k01 := cell_blk r0 1
  have k02 := frozen_blk r0 0
  have k03 := frozen_blk r0 1
  have k10 := cell_blk r1 0
  have k11 := cell_blk r1 1
  have k12 := frozen_blk r1 0
  have k13 := frozen_blk r1 1
  simp only [List.getElem?_toArray, List.getElem?_cons_zero, List.getElem?_cons_succ] at k00 k01 k10 k11
  rcases hN : namesB ss with _ | _
  · have hp : parsePB s ss = ((false, []), 2) := by simp [parsePB, hN]
    have Hp := Lib.hid hp
    clear hp
    go_wp2
    subst hQl
    rw [landed_ret]
    obtain ⟨z0, z1⟩ := set2_cells r0 (.bool false) (.slice none 0 0)
    refine bodyPost_ret (v := .tuple #[.agg #[.bool false, .slice none 0 0], .int .i64 2]) (by simp [results, Tryz.results71, go_sem, z0, z1]) rfl ⟨by rw [Hp.out]; exact ⟨_, _, _, rfl, Prs.nil _ _ _, by omega, fun h => absurd h (by omega)⟩, (hb5.setCell (p := ⟨w.heap.size, 0, none⟩) (Nat.le_refl _) _).setCell (p := ⟨w.heap.size, 1, none⟩) (Nat.le_refl _) _⟩
  · rcases hse : s with _ | ⟨s0, st⟩
    · subst hse
      have hp : parsePB [] ss = ((false, []), 0) := by simp [parsePB, hN]
      have Hp := Lib.hid hp
      clear hp
      go_wp2
      subst hQl
      rw [landed_ret]
      obtain ⟨z0, z1⟩ := set2_cells r0 (.bool false) (.slice none 0 0)
      refine bodyPost_ret (v := .tuple #[.agg #[.bool false, .slice none 0 0], .int .i64 0]) (by simp [results, Tryz.results71, go_sem, z0, z1]) rfl ⟨by rw [Hp.out]; exact ⟨_, _, _, rfl, Prs.nil _ _ _, by omega, fun h => absurd h (by omega)⟩, (hb5.setCell (p := ⟨w.heap.size, 0, none⟩) (Nat.le_refl _) _).setCell (p := ⟨w.heap.size, 1, none⟩) (Nat.le_refl _) _⟩
    · have hsne : ¬ s = [] := by rw [hse]; simp
      rw [← hse]
      have hsemp : s.isEmpty = false := by rw [hse]; rfl
      clear hse
      obtain ⟨cb, WB, hcv, hBy, hbB⟩ := run_bytes ⟨s.toArray⟩ w3
      have hcf := containsFunc_byte _ _ cb s WB (enters_of Tryz.func113 (by kernel_rfl) rfl) hBy (says_bad WB) (by show s.toArray.size ≤ _; simp; omega)
      have hfacts : ∀ W, Below WB.heap.size WB W → Below w.heap.size w W ∧ W.heap[w.heap.size]? = some (.cells #[.bool false, .slice none 0 0] 96 (0, 0)) ∧ W.heap[w.heap.size + 1]? = some (.cells #[.bool false, .slice none 0 0] 96 (0, 0)) ∧ Strs W W.heap.size A2 n2 l := fun W hW => by
        have h1 := hbB.trans (hW.mono hbB.size)
        exact ⟨hb5.trans (h1.mono hb5.size), (h1.block _ (Array.getElem?_eq_some_iff.1 r0).1).trans r0, (h1.block _ (Array.getElem?_eq_some_iff.1 r1).1).trans r1, (hS3.below h1).more h1.size⟩
      have Hfacts := Lib.hid hfacts
      clear hfacts
      rcases hbad : s.any badB with _ | _
      · rw [hbad] at hcf
        have hpb : parsePB s ss = match itemsB ss (if (partsA s).head? = some [94] then (partsA s).tail else partsA s) [] with
            | some xs => ((decide ((partsA s).head? = some [94]), xs), 0)
            | none => ((false, []), 80) := by simp [parsePB, hN, hsne, hbad]
        have htl0 : ∀ t ∈ l, t.length ≤ 100000 := fun t ht => by
          rw [Hasc.out (not_bad_ascii hbad)] at ht
          have h1 := (splitL_mem 10 _ t ht).1
          rw [marksA_len] at h1
          omega
        have Htl0 := Lib.hid htl0
        clear htl0
        rw [← Hasc.out (not_bad_ascii hbad)] at hpb
        have Hpb := Lib.hid hpb
        clear hpb hbad k00 k01 k10 k11 k02 k03 k12 k13 r0 r1
        obtain ⟨l0, lt, hll⟩ : ∃ l0 lt, l = l0 :: lt := by
          cases l with
          | nil => exact absurd rfl Hne.out
          | cons a b => exact ⟨a, b, rfl⟩
        by_cases h94 : l0 = [94]
        · have e94 : (l0 == [94]) = true := by simpa using h94
          have hpb2 : parsePB s ss = match itemsB ss lt [] with
            | some xs => ((true, xs), 0)
            | none => ((false, []), 80) := by
            have := Hpb.out
            rw [hll] at this
            simpa [h94] using this
          have Hpb2 := Lib.hid hpb2
          clear hpb2 Hpb h94
          go_wp2_with fail
          refine hcf.mono ?_
          rintro e w4 ⟨rfl, hb6⟩
          obtain ⟨hb7, r0, r1, hS4⟩ := Hfacts.out w4 hb6
          obtain ⟨zb, zo, rfl, hzb, hzc⟩ := hS4.at_ hn2p
          have z0 := hzc 0 (by rw [hll]; simp)
          simp only [hll, List.getElem_cons_zero, Nat.add_zero] at z0
          have Hll := Lib.hid hll
          have hdec : decide (0 < n2) = true := by simpa using hn2p
          have k10 := cell_blk r1 0
          have k12 := frozen_blk r1 0
          simp only [List.getElem?_toArray, List.getElem?_cons_zero] at k10
          clear hzc hll hb6 hcf
          by_cases h1 : n2 = 1
          · subst h1
            obtain rfl : lt = [] := by
              have := Hl2.out
              rw [Hll.out] at this
              exact List.eq_nil_of_length_eq_zero (by simpa using this)
            go_wp2
            go_region
            generalize hW9 : (w4.setCell ⟨w.heap.size + 1, 0, none⟩ (.bool true)).drew = W9 at *
            have hb9 : Below w.heap.size w W9 := by rw [← hW9]; exact (hb7.setCell (p := ⟨w.heap.size + 1, 0, none⟩) (Nat.le_succ _) _).drew
            have r9 : W9.heap[w.heap.size]? = some (.cells #[.bool false, .slice none 0 0] 96 (0, 0)) := by rw [← hW9]; exact (Below.heap_setCell _ _ _ _ (Nat.ne_of_lt (Nat.lt_succ_self _))).trans r0
            have r8 : W9.heap[w.heap.size + 1]? = some (.cells #[.bool true, .slice none 0 0] 96 (0, 0)) := by rw [← hW9]; exact setCell_blk r1 0 (.bool true)
            have hST : Strs W9 W9.heap.size (some ⟨zb, zo, none⟩) 0 [] := Strs.nil _ _ _
            clear hb7 r0 r1 z0 k10 k12 hW9 hS4
            have hb7 := hb9
            have r0 := r9
            have r1 := r8
            clear hb9 r9 r8
            go_wp2
            obtain ⟨i0, hi0, hz0, hz1, hz2⟩ := info_parts item_info
            have hs4 := hb7.size
            have hs4' := (Array.getElem?_eq_some_iff.1 r1).1
            go_loopw [37] (fun i wr => ∃ (k : Nat) (v : Value) (acc : List (Int × Int)), k ≤ 0 ∧ i = .int .i64 (k : Int) ∧ Below w.heap.size w wr ∧ W9.heap.size ≤ wr.heap.size ∧ wr.heap[w.heap.size]? = some (.cells #[.bool false, .slice none 0 0] 96 (0, 0)) ∧
                wr.heap[w.heap.size + 1]? = some (.cells #[.bool true, v] 96 (0, 0)) ∧ Strs wr W9.heap.size (some ⟨zb, zo, none⟩) 0 ([] : List (List UInt8)) ∧ wr.ownsRow W9.heap.size 167 2 v acc.length (itemVs acc) ∧ acc.length ≤ 10 ∧ itemsB ss ([] : List (List UInt8)) [] = itemsB ss (([] : List (List UInt8)).drop k) acc) (fun i _ => 0 - (RowKit.intOf i).toNat)
            case atStart => exact ⟨0, _, [], Nat.zero_le _, rfl, hb7, Nat.le_refl _, r0, r1, hST, World.ownsRow_nil _ _ _ _, by simp, rfl⟩
            case round =>
              obtain ⟨k, v, acc, hk, rfl, hbr, hsr, q0, q1, hSr, hown, hacc, hit⟩ := hrel
              obtain ⟨A', n', c', rfl, hn', hPr⟩ := prs_own hown
              have Hit := Lib.hid hit
              have Hn' := Lib.hid hn'
              have hn'10 : n' ≤ 10 := by omega
              clear hit hn'
              rcases Nat.lt_or_ge k (0) with hlt | hge
              · exact absurd hlt (Nat.not_lt_zero _)
              · have hp : parsePB s ss = ((true, acc), 0) := by
                  rw [Hpb2.out, Hit.out, List.drop_eq_nil_of_le (by have := hSr.len; omega), itemsB]
                have Hp := Lib.hid hp
                clear hp
                have k00 := cell_blk q0 0
                have k01 := cell_blk q0 1
                have k02 := frozen_blk q0 0
                have k03 := frozen_blk q0 1
                have k10 := cell_blk q1 0
                have k11 := cell_blk q1 1
                simp only [List.getElem?_toArray, List.getElem?_cons_zero, List.getElem?_cons_succ] at k00 k01 k10 k11
                go_wp2
                subst hQl
                rw [landed_ret]
                obtain ⟨z0, z1⟩ := set2_cells q0 (.bool true) (.slice A' n' c')
                have hs9 : Below w.heap.size w ((wr.setCell ⟨w.heap.size, 0, none⟩ (.bool true)).setCell ⟨w.heap.size, 1, none⟩ (.slice A' n' c')) := (hbr.setCell (p := ⟨w.heap.size, 0, none⟩) (Nat.le_refl _) _).setCell (p := ⟨w.heap.size, 1, none⟩) (Nat.le_refl _) _
                have hown9 : ((wr.setCell ⟨w.heap.size, 0, none⟩ (.bool true)).setCell ⟨w.heap.size, 1, none⟩ (.slice A' n' c')).ownsRow W9.heap.size 167 2 (.slice A' n' c') acc.length (itemVs acc) := by
                  have h1 := hown.kept (grownBy_setCell2 wr w.heap.size 0 (.bool true)) (.inr (blk_not_row q0 (by decide) hown).symm)
                  have h2 := setCell_blk q0 0 (.bool true)
                  exact h1.kept (grownBy_setCell2 _ w.heap.size 1 (.slice A' n' c')) (.inr (blk_not_row h2 (by decide) h1).symm)
                obtain ⟨A9, n9, c9, he9, _, hP9⟩ := prs_own hown9
                injection he9 with e1 e2 e3
                subst e1 e2 e3
                refine bodyPost_ret (v := .tuple #[.agg #[.bool true, .slice A' n' c'], .int .i64 0]) (by simp [results, Tryz.results71, go_sem, z0, z1]) rfl ⟨by rw [Hp.out]; exact ⟨_, _, _, rfl, hP9, hn'10, own_fresh hown9 hs4⟩, hs9⟩
          · obtain ⟨q, rfl⟩ : ∃ q, n2 = q + 1 := ⟨n2 - 1, by omega⟩
            have hd1 : decide (q + 1 < 1) = false := by simp
            have hq0 : 0 < q := by omega
            have hltl : lt.length = q := by
              have := Hl2.out
              rw [Hll.out] at this
              simpa using this
            have hST4 : ∀ (j : Nat) (hj : j < lt.length), w4.cell? ⟨zb, zo + 1 + j, none⟩ = some (.string ⟨lt[j].toArray⟩) := fun j hj => by
              obtain ⟨vb, vo, hva, hvb, hvc⟩ := hS4.at_ (by omega)
              have hv : zb = vb ∧ zo = vo := by simpa using hva
              obtain ⟨rfl, rfl⟩ := hv
              have h3 := hvc (j + 1) (by rw [Hll.out]; simp; omega)
              simp only [Hll.out, List.getElem_cons_succ] at h3
              rw [show zo + 1 + j = zo + (j + 1) by omega]
              exact h3
            have hzne : zb ≠ w.heap.size + 1 := by
              rintro rfl
              have := cell_blk r1 zo
              rw [z0] at this
              match zo, this with
              | 0, h => simp at h
              | 1, h => simp at h
              | q + 2, h => simp at h
            have Hltl := Lib.hid hltl
            have HST4 := Lib.hid hST4
            clear hltl hST4 h1
            go_wp2
            go_region
            generalize hW9 : (w4.setCell ⟨w.heap.size + 1, 0, none⟩ (.bool true)).drew = W9 at *
            have hb9 : Below w.heap.size w W9 := by rw [← hW9]; exact (hb7.setCell (p := ⟨w.heap.size + 1, 0, none⟩) (Nat.le_succ _) _).drew
            have r9 : W9.heap[w.heap.size]? = some (.cells #[.bool false, .slice none 0 0] 96 (0, 0)) := by rw [← hW9]; exact (Below.heap_setCell _ _ _ _ (Nat.ne_of_lt (Nat.lt_succ_self _))).trans r0
            have r8 : W9.heap[w.heap.size + 1]? = some (.cells #[.bool true, .slice none 0 0] 96 (0, 0)) := by rw [← hW9]; exact setCell_blk r1 0 (.bool true)
            have hST : Strs W9 W9.heap.size (some ⟨zb, zo + 1, none⟩) q lt := ⟨Hltl.out, fun _ => ⟨zb, zo + 1, rfl, by rw [← hW9]; show zb < (w4.setCell _ _).heap.size; simpa [World.setCell] using hzb, fun j hj => by
              rw [← hW9]
              exact (World.cell?_setCell_other _ _ _ _ (by simp)).trans (HST4.out j hj)⟩⟩
            have Htl : Hid (∀ t ∈ lt, t.length ≤ 100000) := Lib.hid fun t ht => Htl0.out t (by rw [Hll.out]; exact List.mem_cons_of_mem _ ht)
            clear hb7 r0 r1 z0 k10 k12 hW9 hS4
            have hb7 := hb9
            have r0 := r9
            have r1 := r8
            clear hb9 r9 r8
            go_wp2
            obtain ⟨i0, hi0, hz0, hz1, hz2⟩ := info_parts item_info
            have hs4 := hb7.size
            have hs4' := (Array.getElem?_eq_some_iff.1 r1).1
            go_loopw [37] (fun i wr => ∃ (k : Nat) (v : Value) (acc : List (Int × Int)), k ≤ q ∧ i = .int .i64 (k : Int) ∧ Below w.heap.size w wr ∧ W9.heap.size ≤ wr.heap.size ∧ wr.heap[w.heap.size]? = some (.cells #[.bool false, .slice none 0 0] 96 (0, 0)) ∧
                wr.heap[w.heap.size + 1]? = some (.cells #[.bool true, v] 96 (0, 0)) ∧ Strs wr W9.heap.size (some ⟨zb, zo + 1, none⟩) q lt ∧ wr.ownsRow W9.heap.size 167 2 v acc.length (itemVs acc) ∧ acc.length ≤ 10 ∧ itemsB ss lt [] = itemsB ss (lt.drop k) acc) (fun i _ => q - (RowKit.intOf i).toNat)
            case atStart => exact ⟨0, _, [], Nat.zero_le _, rfl, hb7, Nat.le_refl _, r0, r1, hST, World.ownsRow_nil _ _ _ _, by simp, rfl⟩
            case round =>
              obtain ⟨k, v, acc, hk, rfl, hbr, hsr, q0, q1, hSr, hown, hacc, hit⟩ := hrel
              obtain ⟨A', n', c', rfl, hn', hPr⟩ := prs_own hown
              have Hit := Lib.hid hit
              have Hn' := Lib.hid hn'
              have hn'10 : n' ≤ 10 := by omega
              clear hit hn'
              rcases Nat.lt_or_ge k (q) with hlt | hge
              · obtain ⟨yb, yo, hya, hyb, hyc⟩ := hSr.at_ (by omega)
                have hkl : k < lt.length := by have := hSr.len; omega
                have y0 := hyc k hkl
                have Hdrop := Lib.hid (List.drop_eq_getElem_cons hkl)
                have htl := Htl.out _ (List.getElem_mem hkl)
                generalize lt[k] = t at y0 Hdrop htl
                have hitem := pattern_item t A n c ss wr (hG.below hbr) hn ((hz.below hbr).more hbr.size) hs (by omega)
                obtain ⟨rfl, rfl⟩ : zb = yb ∧ zo + 1 = yo := by simpa using hya
                clear hyc
                rcases hio : itemPB t ss with _ | x
                · rw [hio] at hitem
                  have hp : parsePB s ss = ((false, []), 80) := by
                    rw [Hpb2.out, Hit.out, Hdrop.out, itemsB, hio]
                  have Hp := Lib.hid hp
                  clear hp hio
                  go_wp2_with fail
                  refine hitem.mono ?_
                  rintro e w5 ⟨⟨pp, rfl⟩, hb8⟩
                  have hb9 : Below w.heap.size w w5 := hbr.trans (hb8.mono hbr.size)
                  have p0 := (hb8.block _ (Array.getElem?_eq_some_iff.1 q0).1).trans q0
                  obtain ⟨pq, hgp⟩ := (hG.below (hb9.alloc hb9.size (.cells #[.int .i64 0, .int .i64 0] 167))).pat
                  have p1 : (w5.alloc (.cells #[.int .i64 0, .int .i64 0] 167)).heap[w.heap.size]? = some (.cells #[.bool false, .slice none 0 0] 96 (0, 0)) := (heap_old (Array.getElem?_eq_some_iff.1 p0).1).trans p0
                  have k00 := cell_blk p1 0
                  have k01 := cell_blk p1 1
                  have k02 := frozen_blk p1 0
                  have k03 := frozen_blk p1 1
                  simp only [List.getElem?_toArray, List.getElem?_cons_zero, List.getElem?_cons_succ] at k00 k01
                  go_wp2
                  go_step3
                  go_simp
                  subst hQl
                  refine landed_goto (by rfl) ?_
                  go_wp2_with (go_at_call 115; refine (pattern_told pq _ hgp).mono ?_; rintro e w' ⟨rfl, rfl⟩)
                  try rw [Exit.noGoto_ret]
                  obtain ⟨z0, z1⟩ := set2_cells p1 (.bool false) (.slice none 0 0)
                  refine bodyPost_ret (v := .tuple #[.agg #[.bool false, .slice none 0 0], .int .i64 80]) (by simp [results, Tryz.results71, go_sem, z0, z1]) rfl ⟨by rw [Hp.out]; exact ⟨_, _, _, rfl, Prs.nil _ _ _, by omega, fun h => absurd h (by omega)⟩, ((hb9.alloc hb9.size _).setCell (p := ⟨w.heap.size, 0, none⟩) (Nat.le_refl _) _).setCell (p := ⟨w.heap.size, 1, none⟩) (Nat.le_refl _) _⟩
                · rw [hio] at hitem
                  obtain ⟨x0, x1⟩ := x
                  go_wp2_with fail
                  refine hitem.mono ?_
                  rintro e w5 ⟨he, hb8⟩
                  obtain rfl := he
                  have hb9 : Below w.heap.size w w5 := hbr.trans (hb8.mono hbr.size)
                  have p0 := (hb8.block _ (Array.getElem?_eq_some_iff.1 q0).1).trans q0
                  have p1 := (hb8.block _ (Array.getElem?_eq_some_iff.1 q1).1).trans q1
                  have hown5 := ownsRow_below hown hb8
                  have hS5 := hSr.below (hb8.mono hsr)
                  have hs5 := hb8.size
                  have hl5 := (Array.getElem?_eq_some_iff.1 p1).1
                  have u1 : (w5.alloc (.cells #[.int .i64 x0, .int .i64 x1] 167)).heap[w.heap.size + 1]? = some (.cells #[.bool true, .slice A' n' c'] 96 (0, 0)) := (heap_old hl5).trans p1
                  have u0 : (w5.alloc (.cells #[.int .i64 x0, .int .i64 x1] 167)).heap[w.heap.size]? = some (.cells #[.bool false, .slice none 0 0] 96 (0, 0)) := (heap_old (Array.getElem?_eq_some_iff.1 p0).1).trans p0
                  have k11 := cell_blk u1 1
                  simp only [List.getElem?_toArray, List.getElem?_cons_zero, List.getElem?_cons_succ] at k11
                  have hbA : Below w.heap.size w (w5.alloc (.cells #[.int .i64 x0, .int .i64 x1] 167)) := hb9.alloc hb9.size _
                  clear y0 hown q0 q1 hSr p1
                  by_cases h10 : acc.length = 10
                  · have hp : parsePB s ss = ((false, []), 80) := by
                      rw [Hpb2.out, Hit.out, Hdrop.out, itemsB, hio]
                      simp [h10]
                    have Hp := Lib.hid hp
                    have e10 : ((n' : Int) == 10) = true := by
                      have := Hn'.out
                      rw [beq_iff_eq]; omega
                    clear hp hio h10
                    obtain ⟨pq, hgp⟩ := (hG.below hbA).pat
                    have k00 := cell_blk u0 0
                    have k01 := cell_blk u0 1
                    have k02 := frozen_blk u0 0
                    have k03 := frozen_blk u0 1
                    simp only [List.getElem?_toArray, List.getElem?_cons_zero, List.getElem?_cons_succ] at k00 k01
                    go_wp2
                    go_step3
                    go_simp
                    subst hQl
                    refine landed_goto (by rfl) ?_
                    go_wp2_with (go_at_call 115; refine (pattern_told pq _ hgp).mono ?_; rintro e w' ⟨rfl, rfl⟩)
                    try rw [Exit.noGoto_ret]
                    obtain ⟨z0, z1⟩ := set2_cells u0 (.bool false) (.slice none 0 0)
                    refine bodyPost_ret (v := .tuple #[.agg #[.bool false, .slice none 0 0], .int .i64 80]) (by simp [results, Tryz.results71, go_sem, z0, z1]) rfl ⟨by rw [Hp.out]; exact ⟨_, _, _, rfl, Prs.nil _ _ _, by omega, fun h => absurd h (by omega)⟩, (hbA.setCell (p := ⟨w.heap.size, 0, none⟩) (Nat.le_refl _) _).setCell (p := ⟨w.heap.size, 1, none⟩) (Nat.le_refl _) _⟩
                  · have hit2 : itemsB ss lt [] = itemsB ss (lt.drop (k + 1)) (acc ++ [(x0, x1)]) := by
                      rw [Hit.out, Hdrop.out, itemsB, hio]
                      simp [h10]
                    have Hit2 := Lib.hid hit2
                    have e10 : ((n' : Int) == 10) = false := by
                      have := Hn'.out
                      rw [beq_eq_false_iff_ne]; omega
                    have hacc9 : acc.length < 10 := by omega
                    have hownA : (w5.alloc (.cells #[.int .i64 x0, .int .i64 x1] 167)).ownsRow W9.heap.size 167 2 (.slice A' n' c') acc.length (itemVs acc) := hown5.alloc _
                    have hcA : ∀ (j : Nat) (u : Value), [Value.int .i64 x0, .int .i64 x1][j]? = some u → ((w5.alloc (.cells #[.int .i64 x0, .int .i64 x1] 167)).alloc (.cells #[.int .i64 x0, .int .i64 x1] 167)).cell? ((⟨w5.heap.size + 1, 0, none⟩ : Addr).add j) = some u := by
                      have := cell_two_at (w5.alloc (.cells #[.int .i64 x0, .int .i64 x1] 167)) (.int .i64 x0) (.int .i64 x1) 167
                      rw [World.size_alloc] at this
                      exact this
                    have Hb4 := Lib.hid (show W9.heap.size ≤ (w5.alloc (.cells #[.int .i64 x0, .int .i64 x1] 167)).heap.size by simp; omega)
                    clear hit2 hio h10
                    go_wp2_with (at_builtin; refine wpList_append_at _ rfl _ _ 94 rfl W9.heap.size 167 i0 (.agg #[.int .i64 0, .int .i64 0]) 2 16 Tryz.underlying94 hi0 hz0 hz1 hz2 rfl (by decide) (.slice A' n' c') acc.length (itemVs acc) rfl (hownA.alloc _) ⟨w5.heap.size + 1, 0, none⟩ 1 1 [.int .i64 x0, .int .i64 x1] rfl rfl hcA (by simp [Value.oneCell']) (by simp only [maxLen]; omega) (by omega) (by simp; omega) ?_; intro v' w8 hown8 hgrow hat; obtain ⟨g8, cap8, rfl⟩ := ownsRow_succ hown8; have hfa := field_appended2 (n₀ := w.heap.size) (j := 1) u1 (by decide) hownA Hb4.out hs4 (Nat.le_succ _) hown8 hgrow; obtain ⟨f1, f2, f3, f4, f5⟩ := hfa; have c1 := cell_blk f1 1; have c2 := frozen_blk f1 1)
                    go_roundw
                    case rel =>
                      refine ⟨k + 1, _, acc ++ [(x0, x1)], by omega, by go_num, hbA.trans f4, ?_, ?_, f2, ?_, ?_, by simp; omega, Hit2.out⟩
                      · have := hown8.1; have := hgrow.size; simp at this ⊢; omega
                      · exact (f5 _ (by omega) (by omega)).trans u0
                      · refine ⟨hS5.len, fun h0 => ?_⟩
                        obtain ⟨vb, vo, hva, hvb, hvc⟩ := hS5.at_ h0
                        refine ⟨vb, vo, hva, hvb, fun j hj => ?_⟩
                        have hvz : vb = zb := by
                          have := hva; simp at this; exact this.1.symm
                        subst hvz
                        rw [World.cell?_of_block (a := ⟨vb, vo + j, none⟩) (f5 vb hvb hzne)]
                        exact (World.cell?_alloc_lt _ _ _ (by show vb < _; omega)).trans (hvc j hj)
                      · rw [itemVs_app, List.length_append]
                        exact f3
                    case measure => simp [RowKit.intOf]; omega
              · have hp : parsePB s ss = ((true, acc), 0) := by
                  rw [Hpb2.out, Hit.out, List.drop_eq_nil_of_le (by have := hSr.len; omega), itemsB]
                have Hp := Lib.hid hp
                clear hp
                have k00 := cell_blk q0 0
                have k01 := cell_blk q0 1
                have k02 := frozen_blk q0 0
                have k03 := frozen_blk q0 1
                have k10 := cell_blk q1 0
                have k11 := cell_blk q1 1
                simp only [List.getElem?_toArray, List.getElem?_cons_zero, List.getElem?_cons_succ] at k00 k01 k10 k11
                go_wp2
                subst hQl
                rw [landed_ret]
                obtain ⟨z0, z1⟩ := set2_cells q0 (.bool true) (.slice A' n' c')
                have hs9 : Below w.heap.size w ((wr.setCell ⟨w.heap.size, 0, none⟩ (.bool true)).setCell ⟨w.heap.size, 1, none⟩ (.slice A' n' c')) := (hbr.setCell (p := ⟨w.heap.size, 0, none⟩) (Nat.le_refl _) _).setCell (p := ⟨w.heap.size, 1, none⟩) (Nat.le_refl _) _
                have hown9 : ((wr.setCell ⟨w.heap.size, 0, none⟩ (.bool true)).setCell ⟨w.heap.size, 1, none⟩ (.slice A' n' c')).ownsRow W9.heap.size 167 2 (.slice A' n' c') acc.length (itemVs acc) := by
                  have h1 := hown.kept (grownBy_setCell2 wr w.heap.size 0 (.bool true)) (.inr (blk_not_row q0 (by decide) hown).symm)
                  have h2 := setCell_blk q0 0 (.bool true)
                  exact h1.kept (grownBy_setCell2 _ w.heap.size 1 (.slice A' n' c')) (.inr (blk_not_row h2 (by decide) h1).symm)
                obtain ⟨A9, n9, c9, he9, _, hP9⟩ := prs_own hown9
                injection he9 with e1 e2 e3
                subst e1 e2 e3
                refine bodyPost_ret (v := .tuple #[.agg #[.bool true, .slice A' n' c'], .int .i64 0]) (by simp [results, Tryz.results71, go_sem, z0, z1]) rfl ⟨by rw [Hp.out]; exact ⟨_, _, _, rfl, hP9, hn'10, own_fresh hown9 hs4⟩, hs9⟩
        · have e94 : (l0 == [94]) = false := by simpa using h94
          have hpb2 : parsePB s ss = match itemsB ss l [] with
            | some xs => ((false, xs), 0)
            | none => ((false, []), 80) := by
            have := Hpb.out
            rw [hll] at this ⊢
            simpa [h94] using this
          have Hpb2 := Lib.hid hpb2
          clear hpb2 Hpb h94
          go_wp2_with fail
          refine hcf.mono ?_
          rintro e w4 ⟨rfl, hb6⟩
          obtain ⟨hb7, r0, r1, hS4⟩ := Hfacts.out w4 hb6
          obtain ⟨zb, zo, rfl, hzb, hzc⟩ := hS4.at_ hn2p
          have z0 := hzc 0 (by rw [hll]; simp)
          simp only [hll, List.getElem_cons_zero, Nat.add_zero] at z0
          have Hll := Lib.hid hll
          have hdec : decide (0 < n2) = true := by simpa using hn2p
          clear hzc hll hb6 hcf
          go_wp2
          have hST := hS4
          have Htl : Hid (∀ t ∈ l, t.length ≤ 100000) := Lib.hid Htl0.out
          obtain ⟨i0, hi0, hz0, hz1, hz2⟩ := info_parts item_info
          have hzne : zb ≠ w.heap.size + 1 := by
            rintro rfl
            have := cell_blk r1 zo
            rw [z0] at this
            match zo, this with
            | 0, h => simp at h
            | 1, h => simp at h
            | q + 2, h => simp at h
          have hs4 := hb7.size
          have hs4' := (Array.getElem?_eq_some_iff.1 r1).1
          clear z0
          go_loopw [37] (fun i wr => ∃ (k : Nat) (v : Value) (acc : List (Int × Int)), k ≤ n2 ∧ i = .int .i64 (k : Int) ∧ Below w.heap.size w wr ∧ w4.heap.size ≤ wr.heap.size ∧ wr.heap[w.heap.size]? = some (.cells #[.bool false, .slice none 0 0] 96 (0, 0)) ∧
              wr.heap[w.heap.size + 1]? = some (.cells #[.bool false, v] 96 (0, 0)) ∧ Strs wr w4.heap.size (some ⟨zb, zo, none⟩) n2 l ∧ wr.ownsRow w4.heap.size 167 2 v acc.length (itemVs acc) ∧ acc.length ≤ 10 ∧ itemsB ss l [] = itemsB ss (l.drop k) acc) (fun i _ => n2 - (RowKit.intOf i).toNat)
          case atStart => exact ⟨0, _, [], Nat.zero_le _, rfl, hb7, Nat.le_refl _, r0, r1, hST, World.ownsRow_nil _ _ _ _, by simp, rfl⟩
          case round =>
            obtain ⟨k, v, acc, hk, rfl, hbr, hsr, q0, q1, hSr, hown, hacc, hit⟩ := hrel
            obtain ⟨A', n', c', rfl, hn', hPr⟩ := prs_own hown
            have Hit := Lib.hid hit
            have Hn' := Lib.hid hn'
            have hn'10 : n' ≤ 10 := by omega
            clear hit hn'
            rcases Nat.lt_or_ge k (n2) with hlt | hge
            · obtain ⟨yb, yo, hya, hyb, hyc⟩ := hSr.at_ (by omega)
              have hkl : k < l.length := by have := hSr.len; omega
              have y0 := hyc k hkl
              have Hdrop := Lib.hid (List.drop_eq_getElem_cons hkl)
              have htl := Htl.out _ (List.getElem_mem hkl)
              generalize l[k] = t at y0 Hdrop htl
              have hitem := pattern_item t A n c ss wr (hG.below hbr) hn ((hz.below hbr).more hbr.size) hs (by omega)
              obtain ⟨rfl, rfl⟩ : zb = yb ∧ zo = yo := by simpa using hya
              clear hyc
              rcases hio : itemPB t ss with _ | x
              · rw [hio] at hitem
                have hp : parsePB s ss = ((false, []), 80) := by
                  rw [Hpb2.out, Hit.out, Hdrop.out, itemsB, hio]
                have Hp := Lib.hid hp
                clear hp hio
                go_wp2_with fail
                refine hitem.mono ?_
                rintro e w5 ⟨⟨pp, rfl⟩, hb8⟩
                have hb9 : Below w.heap.size w w5 := hbr.trans (hb8.mono hbr.size)
                have p0 := (hb8.block _ (Array.getElem?_eq_some_iff.1 q0).1).trans q0
                obtain ⟨pq, hgp⟩ := (hG.below (hb9.alloc hb9.size (.cells #[.int .i64 0, .int .i64 0] 167))).pat
                have p1 : (w5.alloc (.cells #[.int .i64 0, .int .i64 0] 167)).heap[w.heap.size]? = some (.cells #[.bool false, .slice none 0 0] 96 (0, 0)) := (heap_old (Array.getElem?_eq_some_iff.1 p0).1).trans p0
                have k00 := cell_blk p1 0
                have k01 := cell_blk p1 1
                have k02 := frozen_blk p1 0
                have k03 := frozen_blk p1 1
                simp only [List.getElem?_toArray, List.getElem?_cons_zero, List.getElem?_cons_succ] at k00 k01
                go_wp2
                go_step3
                go_simp
                subst hQl
                refine landed_goto (by rfl) ?_
                go_wp2_with (go_at_call 115; refine (pattern_told pq _ hgp).mono ?_; rintro e w' ⟨rfl, rfl⟩)
                try rw [Exit.noGoto_ret]
                obtain ⟨z0, z1⟩ := set2_cells p1 (.bool false) (.slice none 0 0)
                refine bodyPost_ret (v := .tuple #[.agg #[.bool false, .slice none 0 0], .int .i64 80]) (by simp [results, Tryz.results71, go_sem, z0, z1]) rfl ⟨by rw [Hp.out]; exact ⟨_, _, _, rfl, Prs.nil _ _ _, by omega, fun h => absurd h (by omega)⟩, ((hb9.alloc hb9.size _).setCell (p := ⟨w.heap.size, 0, none⟩) (Nat.le_refl _) _).setCell (p := ⟨w.heap.size, 1, none⟩) (Nat.le_refl _) _⟩
              · rw [hio] at hitem
                obtain ⟨x0, x1⟩ := x
                go_wp2_with fail
                refine hitem.mono ?_
                rintro e w5 ⟨he, hb8⟩
                obtain rfl := he
                have hb9 : Below w.heap.size w w5 := hbr.trans (hb8.mono hbr.size)
                have p0 := (hb8.block _ (Array.getElem?_eq_some_iff.1 q0).1).trans q0
                have p1 := (hb8.block _ (Array.getElem?_eq_some_iff.1 q1).1).trans q1
                have hown5 := ownsRow_below hown hb8
                have hS5 := hSr.below (hb8.mono hsr)
                have hs5 := hb8.size
                have hl5 := (Array.getElem?_eq_some_iff.1 p1).1
                have u1 : (w5.alloc (.cells #[.int .i64 x0, .int .i64 x1] 167)).heap[w.heap.size + 1]? = some (.cells #[.bool false, .slice A' n' c'] 96 (0, 0)) := (heap_old hl5).trans p1
                have u0 : (w5.alloc (.cells #[.int .i64 x0, .int .i64 x1] 167)).heap[w.heap.size]? = some (.cells #[.bool false, .slice none 0 0] 96 (0, 0)) := (heap_old (Array.getElem?_eq_some_iff.1 p0).1).trans p0
                have k11 := cell_blk u1 1
                simp only [List.getElem?_toArray, List.getElem?_cons_zero, List.getElem?_cons_succ] at k11
                have hbA : Below w.heap.size w (w5.alloc (.cells #[.int .i64 x0, .int .i64 x1] 167)) := hb9.alloc hb9.size _
                clear y0 hown q0 q1 hSr p1
                by_cases h10 : acc.length = 10
                · have hp : parsePB s ss = ((false, []), 80) := by
                    rw [Hpb2.out, Hit.out, Hdrop.out, itemsB, hio]
                    simp [h10]
                  have Hp := Lib.hid hp
                  have e10 : ((n' : Int) == 10) = true := by
                    have := Hn'.out
                    rw [beq_iff_eq]; omega
                  clear hp hio h10
                  obtain ⟨pq, hgp⟩ := (hG.below hbA).pat
                  have k00 := cell_blk u0 0
                  have k01 := cell_blk u0 1
                  have k02 := frozen_blk u0 0
                  have k03 := frozen_blk u0 1
                  simp only [List.getElem?_toArray, List.getElem?_cons_zero, List.getElem?_cons_succ] at k00 k01
                  go_wp2
                  go_step3
                  go_simp
                  subst hQl
                  refine landed_goto (by rfl) ?_
                  go_wp2_with (go_at_call 115; refine (pattern_told pq _ hgp).mono ?_; rintro e w' ⟨rfl, rfl⟩)
                  try rw [Exit.noGoto_ret]
                  obtain ⟨z0, z1⟩ := set2_cells u0 (.bool false) (.slice none 0 0)
                  refine bodyPost_ret (v := .tuple #[.agg #[.bool false, .slice none 0 0], .int .i64 80]) (by simp [results, Tryz.results71, go_sem, z0, z1]) rfl ⟨by rw [Hp.out]; exact ⟨_, _, _, rfl, Prs.nil _ _ _, by omega, fun h => absurd h (by omega)⟩, (hbA.setCell (p := ⟨w.heap.size, 0, none⟩) (Nat.le_refl _) _).setCell (p := ⟨w.heap.size, 1, none⟩) (Nat.le_refl _) _⟩
                · have hit2 : itemsB ss l [] = itemsB ss (l.drop (k + 1)) (acc ++ [(x0, x1)]) := by
                    rw [Hit.out, Hdrop.out, itemsB, hio]
                    simp [h10]
                  have Hit2 := Lib.hid hit2
                  have e10 : ((n' : Int) == 10) = false := by
                    have := Hn'.out
                    rw [beq_eq_false_iff_ne]; omega
                  have hacc9 : acc.length < 10 := by omega
                  have hownA : (w5.alloc (.cells #[.int .i64 x0, .int .i64 x1] 167)).ownsRow w4.heap.size 167 2 (.slice A' n' c') acc.length (itemVs acc) := hown5.alloc _
                  have hcA : ∀ (j : Nat) (u : Value), [Value.int .i64 x0, .int .i64 x1][j]? = some u → ((w5.alloc (.cells #[.int .i64 x0, .int .i64 x1] 167)).alloc (.cells #[.int .i64 x0, .int .i64 x1] 167)).cell? ((⟨w5.heap.size + 1, 0, none⟩ : Addr).add j) = some u := by
                    have := cell_two_at (w5.alloc (.cells #[.int .i64 x0, .int .i64 x1] 167)) (.int .i64 x0) (.int .i64 x1) 167
                    rw [World.size_alloc] at this
                    exact this
                  have Hb4 := Lib.hid (show w4.heap.size ≤ (w5.alloc (.cells #[.int .i64 x0, .int .i64 x1] 167)).heap.size by simp; omega)
                  clear hit2 hio h10
                  go_wp2_with (at_builtin; refine wpList_append_at _ rfl _ _ 94 rfl w4.heap.size 167 i0 (.agg #[.int .i64 0, .int .i64 0]) 2 16 Tryz.underlying94 hi0 hz0 hz1 hz2 rfl (by decide) (.slice A' n' c') acc.length (itemVs acc) rfl (hownA.alloc _) ⟨w5.heap.size + 1, 0, none⟩ 1 1 [.int .i64 x0, .int .i64 x1] rfl rfl hcA (by simp [Value.oneCell']) (by simp only [maxLen]; omega) (by omega) (by simp; omega) ?_; intro v' w8 hown8 hgrow hat; obtain ⟨g8, cap8, rfl⟩ := ownsRow_succ hown8; have hfa := field_appended2 (n₀ := w.heap.size) (j := 1) u1 (by decide) hownA Hb4.out hs4 (Nat.le_succ _) hown8 hgrow; obtain ⟨f1, f2, f3, f4, f5⟩ := hfa; have c1 := cell_blk f1 1; have c2 := frozen_blk f1 1)
                  go_roundw
                  case rel =>
                    refine ⟨k + 1, _, acc ++ [(x0, x1)], by omega, by go_num, hbA.trans f4, ?_, ?_, f2, ?_, ?_, by simp; omega, Hit2.out⟩
                    · have := hown8.1; have := hgrow.size; simp at this ⊢; omega
                    · exact (f5 _ (by omega) (by omega)).trans u0
                    · refine ⟨hS5.len, fun h0 => ?_⟩
                      obtain ⟨vb, vo, hva, hvb, hvc⟩ := hS5.at_ h0
                      refine ⟨vb, vo, hva, hvb, fun j hj => ?_⟩
                      have hvz : vb = zb := by
                        have := hva; simp at this; exact this.1.symm
                      subst hvz
                      rw [World.cell?_of_block (a := ⟨vb, vo + j, none⟩) (f5 vb hvb hzne)]
                      exact (World.cell?_alloc_lt _ _ _ (by show vb < _; omega)).trans (hvc j hj)
                    · rw [itemVs_app, List.length_append]
                      exact f3
                  case measure => simp [RowKit.intOf]; omega
            · have hp : parsePB s ss = ((false, acc), 0) := by
                rw [Hpb2.out, Hit.out, List.drop_eq_nil_of_le (by have := hSr.len; omega), itemsB]
              have Hp := Lib.hid hp
              clear hp
              have k00 := cell_blk q0 0
              have k01 := cell_blk q0 1
              have k02 := frozen_blk q0 0
              have k03 := frozen_blk q0 1
              have k10 := cell_blk q1 0
              have k11 := cell_blk q1 1
              simp only [List.getElem?_toArray, List.getElem?_cons_zero, List.getElem?_cons_succ] at k00 k01 k10 k11
              go_wp2
              subst hQl
              rw [landed_ret]
              obtain ⟨z0, z1⟩ := set2_cells q0 (.bool false) (.slice A' n' c')
              have hs9 : Below w.heap.size w ((wr.setCell ⟨w.heap.size, 0, none⟩ (.bool false)).setCell ⟨w.heap.size, 1, none⟩ (.slice A' n' c')) := (hbr.setCell (p := ⟨w.heap.size, 0, none⟩) (Nat.le_refl _) _).setCell (p := ⟨w.heap.size, 1, none⟩) (Nat.le_refl _) _
              have hown9 : ((wr.setCell ⟨w.heap.size, 0, none⟩ (.bool false)).setCell ⟨w.heap.size, 1, none⟩ (.slice A' n' c')).ownsRow w4.heap.size 167 2 (.slice A' n' c') acc.length (itemVs acc) := by
                have h1 := hown.kept (grownBy_setCell2 wr w.heap.size 0 (.bool false)) (.inr (blk_not_row q0 (by decide) hown).symm)
                have h2 := setCell_blk q0 0 (.bool false)
                exact h1.kept (grownBy_setCell2 _ w.heap.size 1 (.slice A' n' c')) (.inr (blk_not_row h2 (by decide) h1).symm)
              obtain ⟨A9, n9, c9, he9, _, hP9⟩ := prs_own hown9
              injection he9 with e1 e2 e3
              subst e1 e2 e3
              refine bodyPost_ret (v := .tuple #[.agg #[.bool false, .slice A' n' c'], .int .i64 0]) (by simp [results, Tryz.results71, go_sem, z0, z1]) rfl ⟨by rw [Hp.out]; exact ⟨_, _, _, rfl, hP9, hn'10, own_fresh hown9 hs4⟩, hs9⟩
      · rw [hbad] at hcf
        have hp : parsePB s ss = ((false, []), 80) := by simp [parsePB, hN, hsne, hbad]
        have Hp := Lib.hid hp
        clear hp hbad k00 k01 k10 k11 k02 k03 k12 k13 r0 r1
        go_wp2_with fail
        refine hcf.mono ?_
        rintro e w4 ⟨rfl, hb6⟩
        obtain ⟨hb7, r0, r1, hS4⟩ := Hfacts.out w4 hb6
        obtain ⟨pp, hgp⟩ := (hG.below hb7).pat
        have k00 := cell_blk r0 0
        have k01 := cell_blk r0 1
        have k02 := frozen_blk r0 0
        have k03 := frozen_blk r0 1
        simp only [List.getElem?_toArray, List.getElem?_cons_zero, List.getElem?_cons_succ] at k00 k01
        go_wp2
        go_step3
        go_simp
        subst hQl
        refine landed_goto (by rfl) ?_
        go_wp2_with (go_at_call 115; refine (pattern_told pp _ hgp).mono ?_; rintro e w' ⟨rfl, rfl⟩)
        try rw [Exit.noGoto_ret]
        obtain ⟨z0, z1⟩ := set2_cells r0 (.bool false) (.slice none 0 0)
        refine bodyPost_ret (v := .tuple #[.agg #[.bool false, .slice none 0 0], .int .i64 80]) (by simp [results, Tryz.results71, go_sem, z0, z1]) rfl ⟨by rw [Hp.out]; exact ⟨_, _, _, rfl, Prs.nil _ _ _, by omega, fun h => absurd h (by omega)⟩, (hb7.setCell (p := ⟨w.heap.size, 0, none⟩) (Nat.le_refl _) _).setCell (p := ⟨w.heap.size, 1, none⟩) (Nat.le_refl _) _⟩
theorem pattern_Parse (s : List UInt8) (A : Option Addr) (n c : Nat) (ss : List (List UInt8)) (w : World) (hG : Globs w) (hn : n ≤ 1000000) (hz : Strs w w.heap.size A n ss) (hs : ∀ x ∈ ss, x.length ≤ 1000) (hl : s.length ≤ 100000) :
    Calls Tryz.prog 71 #[.string ⟨s.toArray⟩, .slice A n c] w fun e w' => PatEnd (parsePB s ss) e w' ∧ Below w.heap.size w w' :=
  (pattern_ParseF s A n c ss w hG hn hz hs hl).mono fun _ _ ⟨⟨A1, n1, c1, h1, h2, h3, _⟩, hb⟩ => ⟨⟨A1, n1, c1, h1, h2, h3⟩, hb⟩
end Go.Vir

/- Slices of slices, appends of slices of items. -/
namespace Go.Vir
open Go Go.RowKit Go.Proofs Go.Shelf
attribute [local go_sem] Oper.semAt_some

theorem Prs.take {w : World} {B n : Nat} {A : Option Addr} {zs : List (Int × Int)} (h : Prs w B A n zs) (k : Nat) (hk : k ≤ n) : Prs w B A k (zs.take k) :=
  ⟨by rw [List.length_take, h.len]; omega, fun h0 => by
    obtain ⟨b, o, e, hb, hc⟩ := h.at_ (by omega)
    refine ⟨b, o, e, hb, fun j hj => ?_⟩
    rw [List.length_take] at hj
    have := hc j (by omega)
    simpa using this⟩

theorem Ints.sub {w : World} {Bd n c : Nat} {A : Option Addr} {zs : List Int} (h : Ints w Bd A n zs) (hc : n ≤ c) (i j : Nat) (hi : i ≤ j) (hj : j ≤ n) :
    Ints w Bd (if c = i then A else Option.map (fun x => x.add i) A) (j - i) (seg zs i j) := by
  have hl := h.len
  have hsl := seg_length zs i j hi (by omega)
  refine ⟨hsl, fun h0 => ?_⟩
  obtain ⟨b, o, rfl, hb, hcl⟩ := h.at_ (by omega)
  rw [if_neg (by omega)]
  refine ⟨b, o + i, ?_, hb, fun y hy => ?_⟩
  · simp only [Option.map_some, Addr.add]
    split
    · rename_i h1; rw [h1]; rfl
    · rfl
  · have h1 := hcl (i + y) (by omega)
    rw [show o + i + y = o + (i + y) by omega, h1]
    simp [seg]

theorem step_append_mine {P : Program} {ops : Array Oper} {o : Oper} {a : Act} {w : World} {K : Act → World → Prop} {Q : Exit → Act → World → Prop} {E : Prop}
    (hg : o.guard = none) (s x : Operand) (t : TypeId) (hop : o.op = Op.call { callee := Callee.builtin Builtin.append, args := #[s, x], argTypes := #[t, t] })
    (base : Nat) (e : TypeId) (i : TypeInfo) (z : Value) (size bytes : Nat) (h1 : P.underlying t = some (.slice e)) (h2 : P.info? e = some i) (h3 : i.zero = some z) (h4 : i.size = size) (h5 : i.bytes = bytes) (h6 : z.cells.size = size) (h7 : 0 < size)
    (v : Value) (n : Nat) (xs : List Value) (hs : a.eval s = v) (hown : w.ownsRow base e size v n xs)
    (ad : Addr) (m c : Nat) (news : List Value) (hx : a.eval x = .slice (some ad) m c) (hn : news.length = m * size) (hc : ∀ j u, news[j]? = some u → w.cell? (ad.add j) = some u) (h1c : ∀ u ∈ news, u.oneCell' = true)
    (b1 : n + m ≤ maxLen) (b2 : (n + m) * bytes ≤ 140737488355328) (hbase : base ≤ w.heap.size)
    (hK : ∀ v' w', w'.ownsRow base e size v' (n + m) (xs ++ news) → w.grownBy w' v.ownBlock → K (a.put o.dst v') w') :
    if Region.wanted o (yielded ops a.tmps) = true then Oper.wp P o a w K Q else E := by
  have hw : Region.wanted o (yielded ops a.tmps) = true := by simp [Region.wanted, hg]
  rw [if_pos hw]
  obtain ⟨v', w', hrun, r1, r2, _⟩ := run_append_own (P := P) w base t o.type e i z size bytes h1 h2 h3 h4 h5 h6 h7 v n xs hown ad m c news hn hc h1c b1 b2 hbase
  unfold Oper.wp
  simp [execOp, hop, resolve, invoke, builtin, hs, hx, hrun, Result.andThen]
  exact hK v' w' r1 r2

theorem cell_two_new (W : World) (x y : Value) (t : TypeId) : ∀ (j : Nat) (u : Value), [x, y][j]? = some u → (W.alloc (.cells #[x, y] t)).cell? ((⟨W.heap.size, 0, none⟩ : Addr).add j) = some u := by
  have e : (W.alloc (.cells #[x, y] t)).heap[W.heap.size]? = some (.cells #[x, y] t (0, 0)) := heap_new rfl
  intro j u hj
  match j, hj with
  | 0, hj => exact (cell_blk e 0).trans (by simpa using hj)
  | 1, hj => exact (cell_blk e 1).trans (by simpa using hj)

theorem step_append_any {P : Program} {ops : Array Oper} {o : Oper} {a : Act} {w : World} {K : Act → World → Prop} {Q : Exit → Act → World → Prop} {E : Prop}
    (hg : o.guard = none) (s x : Operand) (t : TypeId) (hop : o.op = Op.call { callee := Callee.builtin Builtin.append, args := #[s, x], argTypes := #[t, t] })
    (base : Nat) (e : TypeId) (i : TypeInfo) (z : Value) (size bytes : Nat) (h1 : P.underlying t = some (.slice e)) (h2 : P.info? e = some i) (h3 : i.zero = some z) (h4 : i.size = size) (h5 : i.bytes = bytes) (h6 : z.cells.size = size) (h7 : 0 < size)
    (v : Value) (n : Nat) (xs : List Value) (hs : a.eval s = v) (hown : w.ownsRow base e size v n xs)
    (Ax : Option Addr) (m c : Nat) (news : List Value) (hx : a.eval x = .slice Ax m c) (hnone : Ax = none → m = 0 ∧ c = 0) (hn : news.length = m * size) (hc : ∀ ad, Ax = some ad → ∀ j u, news[j]? = some u → w.cell? (ad.add j) = some u) (h1c : ∀ u ∈ news, u.oneCell' = true)
    (b1 : n + m ≤ maxLen) (b2 : (n + m) * bytes ≤ 140737488355328) (hbase : base ≤ w.heap.size)
    (hK : ∀ v' w', w'.ownsRow base e size v' (n + m) (xs ++ news) → w.grownBy w' v.ownBlock → K (a.put o.dst v') w') :
    if Region.wanted o (yielded ops a.tmps) = true then Oper.wp P o a w K Q else E := by
  cases Ax with
  | some ad => exact step_append_mine hg s x t hop base e i z size bytes h1 h2 h3 h4 h5 h6 h7 v n xs hs hown ad m c news hx hn (hc ad rfl) h1c b1 b2 hbase hK
  | none =>
    obtain ⟨rfl, rfl⟩ := hnone rfl
    obtain rfl : news = [] := List.eq_nil_of_length_eq_zero (by simpa using hn)
    have hw : Region.wanted o (yielded ops a.tmps) = true := by simp [Region.wanted, hg]
    rw [if_pos hw]
    have hrun := run_append_owned_none (P := P) (w := w) base t o.type e i size h1 h2 v n xs hown
    unfold Oper.wp
    simp [execOp, hop, resolve, invoke, builtin, hs, hx, hrun, Result.andThen]
    exact hK v w (by simpa using hown) ⟨rfl, rfl, rfl, Nat.le_refl _, fun _ _ _ => rfl⟩

theorem Prs.cells {W : World} {Bd n : Nat} {A : Option Addr} {xs : List (Int × Int)} (h : Prs W Bd A n xs) : ∀ ad, A = some ad → ∀ (j : Nat) (u : Value), (itemVs xs)[j]? = some u → W.cell? (ad.add j) = some u := by
  intro ad hA j u hj
  have hjl := (List.getElem?_eq_some_iff.1 hj).1
  rw [itemVs_len, h.len] at hjl
  obtain ⟨b, o, e, _, hc⟩ := h.at_ (by omega)
  rw [hA] at e
  obtain rfl := Option.some.inj e
  have hj2 : j / 2 < xs.length := by rw [h.len]; omega
  have h2 := hc (j / 2) hj2
  obtain ⟨g1, g2⟩ := itemVs_get xs (j / 2) hj2
  have hadd : (Addr.add ⟨b, o, none⟩ j) = ⟨b, o + j, none⟩ := by
    unfold Addr.add
    split <;> simp_all
  rw [hadd]
  rcases Nat.mod_two_eq_zero_or_one j with h3 | h3
  · have e1 : j = j / 2 * 2 := by omega
    rw [e1, g1] at hj
    rw [e1, h2.1]; exact hj
  · have e1 : j = j / 2 * 2 + 1 := by omega
    rw [e1, g2] at hj
    rw [e1, show o + (j / 2 * 2 + 1) = o + j / 2 * 2 + 1 by omega, h2.2]; exact hj

theorem itemVs_append (xs ys : List (Int × Int)) : itemVs (xs ++ ys) = itemVs xs ++ itemVs ys := by simp [itemVs]
theorem itemVs_one (xs : List (Int × Int)) : ∀ u ∈ itemVs xs, u.oneCell' = true := by
  intro u hu
  obtain ⟨x, _, h⟩ := List.mem_flatMap.1 hu
  simp at h
  rcases h with rfl | rfl <;> rfl

end Go.Vir

/- Items are compared. -/
namespace Go.Vir
open Go Go.RowKit Go.Proofs Go.Shelf
attribute [local go_sem] Oper.semAt_some

theorem item_stood : Program.stoodInHeld Tryz.prog 167 = false := by kernel_rfl
theorem item_neq (a b c d : Int) (w : World) : (binOp .neq 167 (.agg #[.int .i64 a, .int .i64 b]) (.agg #[.int .i64 c, .int .i64 d])).run Tryz.prog w = .ok (.bool (!(a == c && b == d))) w := by
  rw [run_neq_struct, show (10000 : Nat) = 9998 + 1 + 1 from rfl, run_equalIn_agg w _ 167 _ _ (by simp only [Program.fieldsOf, Tryz.underlying167]) item_stood]
  simp only [Program.fieldsOf, Tryz.underlying167]
  cases h1 : (a == c)
  · simp [go_sem, Op.eqFields, h1, Tryz.underlying2, Tryz.underlying3]
  · by_cases h2 : b = d <;> simp [go_sem, Op.eqFields, h1, h2, Tryz.underlying2, Tryz.underlying3]

theorem list_next {xs ys : List (Int × Int)} {k : Nat} (hx : k < xs.length) (hy : k < ys.length) (h : xs.take k = ys.take k) (he : xs[k] = ys[k]) : xs.take (k + 1) = ys.take (k + 1) := by
  rw [List.take_succ_eq_append_getElem hx, List.take_succ_eq_append_getElem hy, h, he]

set_option maxHeartbeats 4000000 in
theorem equal_items (A A2 : Option Addr) (m c m2 c2 : Nat) (xs ys : List (Int × Int)) (w : World) (hx : Prs w w.heap.size A m xs) (hy : Prs w w.heap.size A2 m2 ys) (hm : m ≤ 1000) (hm2 : m2 ≤ 1000) :
    Calls Tryz.prog 122 #[.slice A m c, .slice A2 m2 c2] w fun e w' => e = .returned (.bool (decide (xs = ys))) ∧ Below w.heap.size w w' := by
  have hxl := hx.len
  have hyl := hy.len
  rcases hne : ((m : Int) != (m2 : Int)) with _ | _
  rotate_left
  · have hd : decide (xs = ys) = false := by
      rw [decide_eq_false_iff_not]
      rintro rfl
      rw [bne_iff_ne] at hne
      omega
    rw [hd]
    go_enter Tryz.func122, Tryz.ntmps122
    go_wp2_with fail
    go_ret
    exact ⟨rfl, Below.refl _ _⟩
  · have hmm : m = m2 := by
      have : ¬ ((m : Int) ≠ (m2 : Int)) := by rw [← bne_iff_ne, hne]; simp
      omega
    subst hmm
    generalize hV : decide (xs = ys) = V
    have HV := Lib.hid hV
    clear hV
    go_enter Tryz.func122, Tryz.ntmps122
    go_upto_region 4 with fail
    have Hxl := Lib.hid hxl
    have Hyl := Lib.hid hyl
    clear hxl hyl
    go_loopw [5, 13] (fun _ i wr => ∃ k : Nat, k ≤ m ∧ i = .int .i64 (k : Int) ∧ xs.take k = ys.take k ∧ Below w.heap.size w wr) (fun _ i _ => m - (RowKit.intOf i).toNat)
    case atStart => exact ⟨0, Nat.zero_le _, rfl, by simp, Below.refl _ _⟩
    case round =>
      obtain ⟨k, hk, rfl, htk, hbr⟩ := hrel
      have Htk := Lib.hid htk
      clear htk
      rcases Nat.lt_or_ge k m with hkm | hge
      · obtain ⟨b1, o1, rfl, hb1, hc1⟩ := hx.at_ (by omega)
        obtain ⟨b2, o2, rfl, hb2, hc2⟩ := hy.at_ (by omega)
        have hkx : k < xs.length := by rw [Hxl.out]; exact hkm
        have hky : k < ys.length := by rw [Hyl.out]; exact hkm
        have u0 := (cellOf hbr hb1).trans (hc1 k hkx).1
        have u1 := (cellOf hbr hb1).trans (hc1 k hkx).2
        have v0 := (cellOf hbr hb2).trans (hc2 k hky).1
        have v1 := (cellOf hbr hb2).trans (hc2 k hky).2
        have hnx := list_next hkx hky Htk.out
        have hno : xs[k] ≠ ys[k] → V = false := fun h => by
          rw [← HV.out, decide_eq_false_iff_not]
          rintro rfl
          exact h rfl
        have Hnx := Lib.hid hnx
        have Hno := Lib.hid hno
        clear hc1 hc2 hnx hno
        generalize xs[k] = x at *
        generalize ys[k] = y at *
        obtain ⟨x1, x2⟩ := x
        obtain ⟨y1, y2⟩ := y
        simp only at u0 u1 v0 v1
        obtain ⟨E, hE⟩ : ∃ E : Bool, E = (x1 == y1 && x2 == y2) := ⟨_, rfl⟩
        have hq : ∀ w, (binOp .neq 167 (.agg #[.int .i64 x1, .int .i64 x2]) (.agg #[.int .i64 y1, .int .i64 y2])).run Tryz.prog w = .ok (.bool (!E)) w := fun w => by rw [hE]; exact item_neq x1 x2 y1 y2 w
        have HE := Lib.hid hE
        clear hE
        go_upto_region 6 with fail
        go_quiet (fail)
        clear hq u0 u1 v0 v1
        have hbq : Below w.heap.size w (wr.drewN nq) := hbr.trans (below_drewN _ _ _)
        rcases E with _ | _
        · have hv := Hno.out (by rintro ⟨rfl, rfl⟩; have := HE.out; simp at this)
          have Hv := Lib.hid hv
          clear hv
          go_wp2_with fail
          go_ret
          exact ⟨ret_bool Hv.out.symm, hbq⟩
        · have hxy := Hnx.out (by have := HE.out; simp at this; rw [this.1, this.2])
          have Hxy := Lib.hid hxy
          clear hxy
          go_wp2_with fail
          go_roundw
          case rel => exact ⟨k + 1, by omega, by go_num, Hxy.out, hbq⟩
          case measure => simp [RowKit.intOf]; omega
      · have hv : V = true := by
          rw [← HV.out, decide_eq_true_eq]
          have := Htk.out
          rwa [List.take_of_length_le (by rw [Hxl.out]; exact hge), List.take_of_length_le (by rw [Hyl.out]; exact hge)] at this
        have Hv := Lib.hid hv
        clear hv
        go_wp2_with fail
        go_ret
        exact ⟨ret_bool Hv.out.symm, hbr⟩

/-- P9.1: two patterns are the same. -/
def sameB (st st2 : Bool) (xs ys : List (Int × Int)) : Bool := (st == st2) && decide (xs = ys)

set_option maxHeartbeats 1000000 in
theorem pattern_Same (st st2 : Bool) (A A2 : Option Addr) (m c m2 c2 : Nat) (xs ys : List (Int × Int)) (w : World) (hx : Prs w w.heap.size A m xs) (hy : Prs w w.heap.size A2 m2 ys) (hm : m ≤ 1000) (hm2 : m2 ≤ 1000) :
    Calls Tryz.prog 80 #[.agg #[.bool st, .slice A m c], .agg #[.bool st2, .slice A2 m2 c2]] w fun e w' => e = .returned (.bool (sameB st st2 xs ys)) ∧ Below w.heap.size w w' := by
  have he := fun W (hW : Below w.heap.size w W) => equal_items A A2 m c m2 c2 xs ys W ((hx.below hW).more hW.size) ((hy.below hW).more hW.size) hm hm2
  have He := Lib.hid he
  clear he hx hy
  generalize hV : sameB st st2 xs ys = V
  have HV := Lib.hid hV
  clear hV
  rcases hs : (st == st2) with _ | _
  · have hv : V = false := by rw [← HV.out, sameB, hs]; rfl
    have Hv := Lib.hid hv
    clear hv
    go_enter Tryz.func80, Tryz.ntmps80
    go_wp2_with fail
    go_ret
    exact ⟨ret_bool Hv.out.symm, by go_grown⟩
  · have hv : V = decide (xs = ys) := by rw [← HV.out, sameB, hs]; rfl
    have Hv := Lib.hid hv
    clear hv
    go_enter Tryz.func80, Tryz.ntmps80
    go_wp2_with fail
    refine (He.out _ (by go_grown)).mono ?_
    rintro e w1 ⟨rfl, hb1⟩
    have hb2 : Below w.heap.size w w1 := Below.trans (by go_grown) (hb1.mono (by simp; omega))
    go_wp2_with fail
    go_ret
    exact ⟨ret_bool Hv.out.symm, hb2⟩

set_option maxRecDepth 100000 in
set_option maxHeartbeats 4000000 in
theorem ref_Same (st st2 : Bool) (A A2 : Option Addr) (m c m2 c2 : Nat) (xs ys : List (Int × Int)) (w : World) (hx : Prs w w.heap.size A m xs) (hy : Prs w w.heap.size A2 m2 ys) (hm : m ≤ 1000) (hm2 : m2 ≤ 1000) :
    Calls Tryz.prog 77 #[.agg #[.bool st, .slice A m c], .agg #[.bool st2, .slice A2 m2 c2]] w fun e w' => e = .returned (.bool (sameB st st2 xs ys)) ∧ Below w.heap.size w w' := by
  have Hxl := Lib.hid hx.len
  have Hyl := Lib.hid hy.len
  generalize hV : sameB st st2 xs ys = V
  have HV := Lib.hid hV
  clear hV
  rcases (show st = st2 ∨ (st = false ∧ st2 = true) ∨ (st = true ∧ st2 = false) by cases st <;> cases st2 <;> simp) with rfl | hs
  rotate_left
  · have hv : V = false := by
      rw [← HV.out, sameB]
      rcases hs with ⟨rfl, rfl⟩ | ⟨rfl, rfl⟩ <;> rfl
    have Hv := Lib.hid hv
    clear hv
    rcases hs with ⟨rfl, rfl⟩ | ⟨rfl, rfl⟩
    all_goals
      go_enter Tryz.func77, Tryz.ntmps77
      go_wp2_with fail
      go_ret
      exact ⟨ret_bool Hv.out.symm, by go_grown⟩
  · have hv : V = decide (xs = ys) := by rw [← HV.out, sameB]; simp
    have Hv := Lib.hid hv
    clear hv
    rcases hne : ((m : Int) != (m2 : Int)) with _ | _
    rotate_left
    · have hd : V = false := by
        rw [Hv.out, decide_eq_false_iff_not]
        rintro rfl
        rw [bne_iff_ne] at hne
        have := Hxl.out
        have := Hyl.out
        omega
      have Hd := Lib.hid hd
      clear hd
      go_enter Tryz.func77, Tryz.ntmps77
      go_wp2_with fail
      go_ret
      exact ⟨ret_bool Hd.out.symm, by go_grown⟩
    · have hmm : m = m2 := by
        have : ¬ ((m : Int) ≠ (m2 : Int)) := by rw [← bne_iff_ne, hne]; simp
        omega
      subst hmm
      have hbx : Below w.heap.size w ((w.alloc (.cells #[.bool st, .slice A m c] 96)).alloc (.cells #[.bool st, .slice A2 m c2] 96)) := by go_grown
      have k0 : ((w.alloc (.cells #[.bool st, .slice A m c] 96)).alloc (.cells #[.bool st, .slice A2 m c2] 96)).heap[w.heap.size]? = some (.cells #[.bool st, .slice A m c] 96 (0, 0)) := by rw [heap_old (by simp)]; exact heap_new rfl
      have k1 : ((w.alloc (.cells #[.bool st, .slice A m c] 96)).alloc (.cells #[.bool st, .slice A2 m c2] 96)).heap[w.heap.size + 1]? = some (.cells #[.bool st, .slice A2 m c2] 96 (0, 0)) := heap_new (by simp)
      go_enter Tryz.func77, Tryz.ntmps77
      go_wp2_with fail
      generalize ((w.alloc (.cells #[.bool st, .slice A m c] 96)).alloc (.cells #[.bool st, .slice A2 m c2] 96)) = W0 at *
      have l1 := (Array.getElem?_eq_some_iff.1 k1).1
      have l0 := (Array.getElem?_eq_some_iff.1 k0).1
      have e0 : W0.cell? ⟨w.heap.size, 1, none⟩ = some (.slice A m c) := cell_blk k0 1
      have e1 : W0.cell? ⟨w.heap.size + 1, 1, none⟩ = some (.slice A2 m c2) := cell_blk k1 1
      clear k0 k1
      go_loopw [5] (fun i wr => ∃ k : Nat, k ≤ m ∧ i = .int .i64 (k : Int) ∧ xs.take k = ys.take k ∧ Below W0.heap.size W0 wr) (fun i _ => m - (RowKit.intOf i).toNat)
      case atStart => exact ⟨0, Nat.zero_le _, rfl, by simp, Below.refl _ _⟩
      case round =>
        obtain ⟨k, hk, rfl, htk, hbq⟩ := hrel
        have Htk := Lib.hid htk
        clear htk
        have f0 := (cellOf hbq l0).trans e0
        have f1 := (cellOf hbq l1).trans e1
        have hbr := hbx.trans (hbq.mono hbx.size)
        rcases Nat.lt_or_ge k m with hkm | hge
        · obtain ⟨b1, o1, rfl, hb1, hc1⟩ := hx.at_ (by omega)
          obtain ⟨b2, o2, rfl, hb2, hc2⟩ := hy.at_ (by omega)
          have hkx : k < xs.length := by rw [Hxl.out]; exact hkm
          have hky : k < ys.length := by rw [Hyl.out]; exact hkm
          have u0 := (cellOf hbr hb1).trans (hc1 k hkx).1
          have u1 := (cellOf hbr hb1).trans (hc1 k hkx).2
          have v0 := (cellOf hbr hb2).trans (hc2 k hky).1
          have v1 := (cellOf hbr hb2).trans (hc2 k hky).2
          have hnx := list_next hkx hky Htk.out
          have hno : xs[k] ≠ ys[k] → V = false := fun h => by
            rw [Hv.out, decide_eq_false_iff_not]
            rintro rfl
            exact h rfl
          have Hnx := Lib.hid hnx
          have Hno := Lib.hid hno
          clear hc1 hc2 hnx hno
          generalize xs[k] = x at *
          generalize ys[k] = y at *
          obtain ⟨x1, x2⟩ := x
          obtain ⟨y1, y2⟩ := y
          simp only at u0 u1 v0 v1
          obtain ⟨E, hE⟩ : ∃ E : Bool, E = (x1 == y1 && x2 == y2) := ⟨_, rfl⟩
          have hq : ∀ w, (binOp .neq 167 (.agg #[.int .i64 x1, .int .i64 x2]) (.agg #[.int .i64 y1, .int .i64 y2])).run Tryz.prog w = .ok (.bool (!E)) w := fun w => by rw [hE]; exact item_neq x1 x2 y1 y2 w
          have HE := Lib.hid hE
          clear hE
          go_upto_region 6 with fail
          go_quiet (fail)
          clear hq u0 u1 v0 v1
          have hbw : Below W0.heap.size W0 (wr.drewN nq) := hbq.trans (below_drewN _ _ _)
          have hbz := hbx.trans (hbw.mono hbx.size)
          rcases E with _ | _
          · have hv := Hno.out (by rintro ⟨rfl, rfl⟩; have := HE.out; simp at this)
            have Hw := Lib.hid hv
            clear hv
            go_wp2_with fail
            go_ret
            exact ⟨ret_bool Hw.out.symm, hbz⟩
          · have hxy := Hnx.out (by have := HE.out; simp at this; rw [this.1, this.2])
            have Hxy := Lib.hid hxy
            clear hxy
            go_wp2_with fail
            go_roundw
            case rel => exact ⟨k + 1, by omega, by go_num, Hxy.out, hbw⟩
            case measure => simp [RowKit.intOf]; omega
        · have hv : V = true := by
            rw [Hv.out, decide_eq_true_eq]
            have := Htk.out
            rwa [List.take_of_length_le (by rw [Hxl.out]; exact hge), List.take_of_length_le (by rw [Hyl.out]; exact hge)] at this
          have Hw := Lib.hid hv
          clear hv
          go_wp2_with fail
          go_ret
          exact ⟨ret_bool Hw.out.symm, hbr⟩
end Go.Vir

/- The walks of rule: Decide, Cuts. -/
namespace Go.Vir
open Go Go.RowKit Go.Proofs Go.Shelf
attribute [local go_sem] Oper.semAt_some

set_option maxRecDepth 100000 in
set_option maxHeartbeats 1600000 in
theorem rule_Decide (A B : Option Addr) (m c n cz : Nat) (rs : List RuleV) (zs : List Int) (a : Int) (w : World) (hx : Rls w w.heap.size A m rs) (hz : Ints w w.heap.size B n zs) (hm : m ≤ 1000000) (hn : n ≤ 1000) (hnc : n ≤ cz) :
    Calls Tryz.prog 61 #[.slice A m c, .slice B n cz, .int .i64 a] w fun e w' => e = .returned (.tuple #[.bool (decideB rs zs a).1, .int .i64 (decideB rs zs a).2]) ∧ Below w.heap.size w w' := by
  have hr := rule_Right A m c rs 32 w hx hm
  have Hr := Lib.hid hr
  have Hlen := Lib.hid hz.len
  have hbad : ∀ (h : rulesB 32 rs = false ∨ a ≤ 0 ∨ (n : Int) ≤ a), decideB rs zs a = (false, -1) := fun h => decideB_bad (by rw [Hlen.out]; exact h)
  have hgood : rulesB 32 rs = true → 0 < a → a < n → decideB rs zs a = sayB zs a rs 0 := fun h h0 h1 => decideB_good h h0 (by rw [Hlen.out]; exact h1)
  have Hbad := Lib.hid hbad
  have Hgood := Lib.hid hgood
  clear hr hbad hgood
  generalize decideB rs zs a = D at *
  rcases h1 : rulesB 32 rs with _ | _
  · have hD := Hbad.out (.inl h1)
    subst hD
    go_enter Tryz.func61, Tryz.ntmps61
    go_wp2_with fail
    refine Hr.out.mono ?_
    rintro e w1 ⟨rfl, hb1⟩
    rw [h1]
    go_wp2_with fail
    go_ret2
    exact ⟨rfl, hb1⟩
  · rcases (show a ≤ 0 ∨ (0 < a ∧ (n : Int) ≤ a) ∨ (0 < a ∧ a < n) by omega) with ha | ⟨ha, ha2⟩ | ⟨ha, ha2⟩
    · have hD := Hbad.out (.inr (.inl ha))
      subst hD
      go_enter Tryz.func61, Tryz.ntmps61
      go_wp2_with fail
      refine Hr.out.mono ?_
      rintro e w1 ⟨rfl, hb1⟩
      rw [h1]
      go_wp2_with fail
      go_ret2
      exact ⟨rfl, hb1⟩
    · have hD := Hbad.out (.inr (.inr ha2))
      subst hD
      go_enter Tryz.func61, Tryz.ntmps61
      go_wp2_with fail
      refine Hr.out.mono ?_
      rintro e w1 ⟨rfl, hb1⟩
      rw [h1]
      go_wp2_with fail
      go_ret2
      exact ⟨rfl, hb1⟩
    · have hD := Hgood.out h1 ha ha2
      subst hD
      have hs := fun W (hW : Below w.heap.size w W) p (hp : p < W.heap.size) (h0 : W.cell? ⟨p, 0, none⟩ = some (.slice A m c)) (h1 : W.cell? ⟨p, 0 + 1, none⟩ = some (.slice B n cz)) =>
        judge_say p 0 A B m c n cz rs zs a W hp h0 h1 ((hx.below hW).more hW.size) ((hz.below hW).more hW.size) hm hn hnc
      have Hs := Lib.hid hs
      clear hs hx hz
      generalize sayB zs a rs 0 = s at *
      obtain ⟨s1, s2⟩ := s
      go_enter Tryz.func61, Tryz.ntmps61
      go_wp2_with fail
      refine Hr.out.mono ?_
      rintro e w1 ⟨rfl, hb1⟩
      rw [h1]
      go_wp2_with fail
      refine (Hs.out _ (hb1.alloc hb1.size _) _ (by simp) (by simp) (by simp)).mono ?_
      rintro e w2 ⟨rfl, hb2⟩
      have hb3 : Below w.heap.size w w2 := (hb1.alloc hb1.size _).trans (hb2.mono (Nat.le_trans hb1.size (by simp)))
      clear hb1 hb2
      go_upto_region 4 with fail
      go_quiet (fail)
      go_wp2_with fail
      go_ret2
      exact ⟨rfl, (hb3.alloc hb3.size _).trans (below_drewN _ _ _)⟩

theorem says_stood : Program.stoodInHeld Tryz.prog 156 = false := by kernel_rfl
theorem says_neq (a : Bool) (b : Int) (w : World) : (binOp .neq 156 (.agg #[.bool a, .int .i64 b]) (.agg #[.bool false, .int .i64 b])).run Tryz.prog w = .ok (.bool a) w := by
  rw [run_neq_struct, show (10000 : Nat) = 9998 + 1 + 1 from rfl, run_equalIn_agg w _ 156 _ _ (by simp only [Program.fieldsOf, Tryz.underlying156]) says_stood]
  simp only [Program.fieldsOf, Tryz.underlying156]
  cases a <;> simp [go_sem, Op.eqFields, Tryz.underlying4, Tryz.underlying3]
end Go.Vir

/- The walk of rule.Cuts. -/
namespace Go.Vir
open Go Go.RowKit Go.Proofs Go.Shelf
attribute [local go_sem] Oper.semAt_some

/-- How the cuts end. -/
def CutsEnd (r : List Int × Int) (e : Ending) (w' : World) : Prop := ∃ A n c, e = .returned (.tuple #[.slice A n c, .int .i64 r.2]) ∧ Ints w' w'.heap.size A n r.1

theorem cell_one_at (w : World) (v : Value) (t : TypeId) : ∀ (j : Nat) (u : Value), [v][j]? = some u → (w.alloc (.cells #[v] t)).cell? ((⟨w.heap.size, 0, none⟩ : Addr).add j) = some u := by
  intro j u h
  have hj := (List.getElem?_eq_some_iff.1 h).1
  obtain rfl : j = 0 := by simpa using hj
  have : u = v := by simpa using h.symm
  subst this
  simp [Addr.add]

theorem own_ints {W : World} {base : Nat} {v : Value} {l : List Int} {n : Nat} (h : W.ownsRow base 3 1 v n (l.map (Value.int .i64))) : ∃ A c, v = .slice A n c ∧ Ints W W.heap.size A n l := by
  rcases h.2 with ⟨rfl, rfl⟩ | ⟨g, cap, cur, rfl, _⟩
  · have : l = [] := by have := h.1; simpa using this
    subst this
    exact ⟨none, 0, rfl, Ints.nil _ _ _⟩
  · exact ⟨_, _, rfl, Ints.of_own h⟩

set_option maxRecDepth 100000 in
set_option maxHeartbeats 4000000 in
theorem rule_Cuts (A B : Option Addr) (m c n cz : Nat) (rs : List RuleV) (zs : List Int) (w : World) (hx : Rls w w.heap.size A m rs) (hz : Ints w w.heap.size B n zs) (hm : m ≤ 1000000) (hn : n ≤ 1000) (hnc : n ≤ cz) :
    Calls Tryz.prog 60 #[.slice A m c, .slice B n cz] w fun e w' => CutsEnd (cutsB rs zs) e w' ∧ Below w.heap.size w w' := by
  have hr := rule_Right A m c rs 32 w hx hm
  have Hr := Lib.hid hr
  have Hlen := Lib.hid hz.len
  clear hr
  rcases h1 : rulesB 32 rs with _ | _
  · have hD : cutsB rs zs = ([], 90) := by rw [cutsB, h1]; rfl
    rw [hD]
    clear hD
    go_enter Tryz.func60, Tryz.ntmps60
    go_wp2_with fail
    refine Hr.out.mono ?_
    rintro e w1 ⟨rfl, hb1⟩
    rw [h1]
    go_wp2_with fail
    go_ret2
    exact ⟨⟨none, 0, 0, rfl, Ints.nil _ _ _⟩, hb1⟩
  · have hD : cutsB rs zs = (0 :: (insB rs zs n ++ (if 0 < n then [(n : Int)] else [])), 0) := by rw [cutsB, if_pos h1, Hlen.out]
    have HD := Lib.hid hD
    clear hD
    obtain ⟨i0, hi0, hz0, hz1, hz2⟩ := info_parts int_info
    have hs := fun (a : Int) W (hW : Below w.heap.size w W) p (hp : p < W.heap.size) (h0 : W.cell? ⟨p, 0, none⟩ = some (.slice A m c)) (h1 : W.cell? ⟨p, 0 + 1, none⟩ = some (.slice B n cz)) =>
      judge_say p 0 A B m c n cz rs zs a W hp h0 h1 ((hx.below hW).more hW.size) ((hz.below hW).more hW.size) hm hn hnc
    have Hs := Lib.hid hs
    clear hs hx hz
    go_enter Tryz.func60, Tryz.ntmps60
    go_wp2_with fail
    refine Hr.out.mono ?_
    rintro e w1 ⟨rfl, hb1⟩
    rw [h1]
    go_wp2_with fail
    have hb2 : Below w.heap.size w ((w1.alloc (.cells #[.slice A m c, .slice B n cz] 154)).alloc (.cells #[.int .i64 0] 3)) := (hb1.alloc hb1.size _).alloc (Nat.le_trans hb1.size (by simp)) _
    have d0 : ((w1.alloc (.cells #[.slice A m c, .slice B n cz] 154)).alloc (.cells #[.int .i64 0] 3)).heap[w1.heap.size]? = some (.cells #[.slice A m c, .slice B n cz] 154 (0, 0)) := by rw [heap_old (by simp)]; exact heap_new rfl
    have d1 : ((w1.alloc (.cells #[.slice A m c, .slice B n cz] 154)).alloc (.cells #[.int .i64 0] 3)).heap[w1.heap.size + 1]? = some (.cells #[.int .i64 0] 3 (0, 0)) := heap_new (by simp)
    have hrow0 : ((w1.alloc (.cells #[.slice A m c, .slice B n cz] 154)).alloc (.cells #[.int .i64 0] 3)).ownsRow w.heap.size 3 1 (.slice (some ⟨w1.heap.size + 1, 0, none⟩) 1 1) 1 ((0 :: insB rs zs 1).map (Value.int .i64)) := by
      rw [insB_one]
      exact ⟨rfl, .inr ⟨w1.heap.size + 1, 1, #[.int .i64 0], rfl, Nat.le_trans hb1.size (Nat.le_succ _), d1, Nat.le_refl _, by simp [maxLen], rfl, rfl⟩⟩
    generalize ((w1.alloc (.cells #[.slice A m c, .slice B n cz] 154)).alloc (.cells #[.int .i64 0] 3)) = W0 at *
    have hjb : w.heap.size ≤ w1.heap.size := hb1.size
    obtain ⟨jb, hjbe⟩ : ∃ jb, jb = w1.heap.size := ⟨_, rfl⟩
    rw [← hjbe] at d0 hjb hrow0
    rw [← hjbe]
    clear hjbe d1 hb1
    go_loopw [7, 8] (fun v i wr => ∃ k : Nat, 1 ≤ k ∧ (k ≤ n ∨ k = 1) ∧ i = .int .i64 (k : Int) ∧ wr.ownsRow w.heap.size 3 1 v (insB rs zs k).length.succ ((0 :: insB rs zs k).map (Value.int .i64)) ∧ Below w.heap.size w wr ∧ wr.heap[jb]? = some (.cells #[.slice A m c, .slice B n cz] 154 (0, 0)) ∧
      (∀ g, v.ownBlock = some g → g ≠ jb)) (fun _ i _ => n - (RowKit.intOf i).toNat)
    case atStart => exact ⟨1, by omega, .inr rfl, rfl, by rw [insB_one] at hrow0 ⊢; exact hrow0, hb2, d0, fun g hg => by simp [Value.ownBlock] at hg; omega⟩
    case round =>
      obtain ⟨k, hk1, hk, rfl, hown, hbr, hj, hgj⟩ := hrel
      have hlj := (Array.getElem?_eq_some_iff.1 hj).1
      have Hgj := Lib.hid hgj
      clear hgj
      have hil := insB_len rs zs k
      rcases Nat.lt_or_ge k n with hlt | hge
      · have c0 : wr.cell? ⟨jb, 0, none⟩ = some (.slice A m c) := cell_blk hj 0
        have c1 : wr.cell? ⟨jb, 0 + 1, none⟩ = some (.slice B n cz) := cell_blk hj 1
        have hS := Hs.out (k : Int) wr hbr jb hlj c0 c1
        have hsc := insB_succ rs zs k (by omega)
        have Hsc := Lib.hid hsc
        have HS := Lib.hid hS
        clear hS hsc c0 c1
        generalize sayB zs (k : Int) rs 0 = s at *
        obtain ⟨s1, s2⟩ := s
        have hq := says_neq s1 s2
        go_wp2_with fail
        refine HS.out.mono ?_
        rintro e w3 ⟨rfl, hb3⟩
        have hown3 := ownsRow_below hown hb3
        have hbr3 := hbr.trans (hb3.mono hbr.size)
        have hj3 := (hb3.block _ hlj).trans hj
        have hbase := hbr3.size
        have Hgw := Lib.hid (fun (g : Nat) (hg : _ = some g) => (row_data hown3 g hg))
        rcases s1 with _ | _
        · have hown4 := (hown3.alloc (.cells #[.bool false, .int .i64 s2] 156)).alloc (.cells #[.bool false, .int .i64 s2] 156)
          have hbr4 : Below w.heap.size w ((w3.alloc (.cells #[.bool false, .int .i64 s2] 156)).alloc (.cells #[.bool false, .int .i64 s2] 156)) := (hbr3.alloc hbase _).alloc (Nat.le_trans hbase (by simp)) _
          have hj4 : ((w3.alloc (.cells #[.bool false, .int .i64 s2] 156)).alloc (.cells #[.bool false, .int .i64 s2] 156)).heap[jb]? = some (.cells #[.slice A m c, .slice B n cz] 154 (0, 0)) := by
            rw [heap_old (by have := (Array.getElem?_eq_some_iff.1 hj3).1; simp; omega), heap_old (Array.getElem?_eq_some_iff.1 hj3).1]; exact hj3
          have hsc2 : insB rs zs (k + 1) = insB rs zs k := by rw [Hsc.out]; simp
          have Hsc2 := Lib.hid hsc2
          clear hsc2 Hsc hown hown3 hbr hbr3 hj hj3 hb3 Hgw
          go_wp2_with fail
          go_roundw
          case rel => exact ⟨k + 1, by omega, by omega, by go_num, by rw [Hsc2.out]; exact hown4, hbr4, hj4, Hgj.out⟩
          case measure => simp [RowKit.intOf]; omega
        · have hown4 := ((hown3.alloc (.cells #[.bool true, .int .i64 s2] 156)).alloc (.cells #[.bool false, .int .i64 s2] 156)).alloc (.cells #[.int .i64 (k : Int)] 3)
          have hbr4 : Below w.heap.size w (((w3.alloc (.cells #[.bool true, .int .i64 s2] 156)).alloc (.cells #[.bool false, .int .i64 s2] 156)).alloc (.cells #[.int .i64 (k : Int)] 3)) := ((hbr3.alloc hbase _).alloc (Nat.le_trans hbase (by simp)) _).alloc (Nat.le_trans hbase (by simp; omega)) _
          have hlj3 := (Array.getElem?_eq_some_iff.1 hj3).1
          have hj4 : (((w3.alloc (.cells #[.bool true, .int .i64 s2] 156)).alloc (.cells #[.bool false, .int .i64 s2] 156)).alloc (.cells #[.int .i64 (k : Int)] 3)).heap[jb]? = some (.cells #[.slice A m c, .slice B n cz] 154 (0, 0)) := by
            rw [heap_old (by simp; omega), heap_old (by simp; omega), heap_old hlj3]; exact hj3
          have hcs : ∀ (j : Nat) (u : Value), [Value.int .i64 (k : Int)][j]? = some u → (((w3.alloc (.cells #[.bool true, .int .i64 s2] 156)).alloc (.cells #[.bool false, .int .i64 s2] 156)).alloc (.cells #[.int .i64 (k : Int)] 3)).cell? ((⟨w3.heap.size + 1 + 1, 0, none⟩ : Addr).add j) = some u := by
            intro j u hj
            have := cell_one_at ((w3.alloc (.cells #[.bool true, .int .i64 s2] 156)).alloc (.cells #[.bool false, .int .i64 s2] 156)) (.int .i64 (k : Int)) 3 j u hj
            simpa using this
          have hsc2 : insB rs zs (k + 1) = insB rs zs k ++ [(k : Int)] := by rw [Hsc.out]; simp
          have Hsc2 := Lib.hid hsc2
          have Hcs := Lib.hid hcs
          have hszW : (((w3.alloc (.cells #[.bool true, .int .i64 s2] 156)).alloc (.cells #[.bool false, .int .i64 s2] 156)).alloc (.cells #[.int .i64 (k : Int)] 3)).heap.size = w3.heap.size + 3 := by simp
          clear hsc2 hcs Hsc hown hown3 hbr hbr3 hj hj3 hb3
          go_wp2_with (at_builtin; refine wpList_append_at _ rfl _ _ 88 rfl w.heap.size 3 i0 (.int .i64 0) 1 8 Tryz.underlying88 hi0 hz0 hz1 hz2 rfl (by decide) _ _ _ rfl hown4 ⟨w3.heap.size + 1 + 1, 0, none⟩ 1 1 [.int .i64 (k : Int)] rfl rfl Hcs.out (by simp [Value.oneCell']) (by simp only [maxLen]; omega) (by omega) (by omega) ?_; intro v' w5 hown5 hgrow hat)
          have hbr5 : Below w.heap.size w w5 := hbr4.grown hgrow (by omega) (fun g hg => (Hgw.out g hg).1)
          have hj5 : w5.heap[jb]? = some (.cells #[.slice A m c, .slice B n cz] 154 (0, 0)) := (hgrow.block jb (by omega) (fun e => Hgj.out jb e.symm rfl)).trans hj4
          have hg5 : ∀ g, v'.ownBlock = some g → g ≠ jb := fun g hg => by
            rcases hat with h | h
            · exact Hgj.out g (h.symm.trans hg)
            · rw [h, hszW] at hg
              have := Option.some.inj hg
              omega
          have hown6 : w5.ownsRow w.heap.size 3 1 v' (insB rs zs (k + 1)).length.succ ((0 :: insB rs zs (k + 1)).map (Value.int .i64)) := by
            rw [Hsc2.out]; simpa using hown5
          have Hg5 := Lib.hid hg5
          clear hg5 hown5 hgrow hat hbr4 hj4 hown4 Hgw hszW
          go_wp2_with fail
          go_roundw
          case rel => exact ⟨k + 1, by omega, by omega, by go_num, hown6, hbr5, hj5, Hg5.out⟩
          case measure => simp [RowKit.intOf]; omega
      · rcases Nat.eq_zero_or_pos n with hn0 | hn0
        · have hk1' : k = 1 := by omega
          subst hk1'
          rw [insB_one] at hown
          have hfin : (cutsB rs zs).1 = [0] ∧ (cutsB rs zs).2 = 0 := by rw [HD.out, hn0]; exact ⟨rfl, rfl⟩
          obtain ⟨A', c', rfl, hI⟩ := own_ints (l := [0]) hown
          have Hfin := Lib.hid hfin
          clear hfin
          subst hn0
          go_wp2_with fail
          go_ret2
          refine ⟨⟨A', 1, c', ?_, ?_⟩, hbr⟩
          · rw [Hfin.out.2]; rfl
          · rw [Hfin.out.1]; exact hI
        · have hkn : k = n := by omega
          subst hkn
          have hown4 := hown.alloc (.cells #[.int .i64 (k : Int)] 3)
          have hcs : ∀ (j : Nat) (u : Value), [Value.int .i64 (k : Int)][j]? = some u → (wr.alloc (.cells #[.int .i64 (k : Int)] 3)).cell? ((⟨wr.heap.size, 0, none⟩ : Addr).add j) = some u := cell_one_at _ _ _
          have Hcs := Lib.hid hcs
          have Hgw := Lib.hid (fun (g : Nat) (hg : _ = some g) => (row_data hown g hg))
          have hbr4 : Below w.heap.size w (wr.alloc (.cells #[.int .i64 (k : Int)] 3)) := hbr.alloc hbr.size _
          have hszW : (wr.alloc (.cells #[.int .i64 (k : Int)] 3)).heap.size = wr.heap.size + 1 := by simp
          have hbs := hbr.size
          clear hcs hown hbr
          go_wp2_with (at_builtin; refine wpList_append_at _ rfl _ _ 88 rfl w.heap.size 3 i0 (.int .i64 0) 1 8 Tryz.underlying88 hi0 hz0 hz1 hz2 rfl (by decide) _ _ _ rfl hown4 ⟨wr.heap.size, 0, none⟩ 1 1 [.int .i64 (k : Int)] rfl rfl Hcs.out (by simp [Value.oneCell']) (by simp only [maxLen]; omega) (by omega) (by omega) ?_; intro v' w5 hown5 hgrow hat)
          have hbr5 : Below w.heap.size w w5 := hbr4.grown hgrow (by omega) (fun g hg => (Hgw.out g hg).1)
          have hown6 : w5.ownsRow w.heap.size 3 1 v' ((insB rs zs k).length.succ + 1) ((0 :: (insB rs zs k ++ [(k : Int)])).map (Value.int .i64)) := by
            simpa using hown5
          obtain ⟨A', c', rfl, hI⟩ := own_ints hown6
          have hfin : (cutsB rs zs).1 = 0 :: (insB rs zs k ++ [(k : Int)]) ∧ (cutsB rs zs).2 = 0 := by rw [HD.out, if_pos hn0]; exact ⟨rfl, rfl⟩
          have Hfin := Lib.hid hfin
          clear hfin hown6 hown5 hgrow hat hown4 Hgw
          go_wp2_with fail
          go_ret2
          refine ⟨⟨A', (insB rs zs k).length.succ + 1, c', ?_, ?_⟩, hbr5⟩
          · rw [Hfin.out.2]; rfl
          · rw [Hfin.out.1]; exact hI
end Go.Vir

/- rule.marks: the table of the marks. -/
namespace Go.Vir
open Go Go.RowKit Go.Proofs Go.Shelf
attribute [local go_sem] Oper.semAt_some

def markEs : Array MapEntry := #[{ key := .int .i32 43, val := .int .i64 0, born := 0 }, { key := .int .i32 47, val := .int .i64 1, born := 1 }]

set_option maxHeartbeats 800000 in
theorem rule_marks (w : World) : Calls Tryz.prog 107 #[] w fun e w' => e = .returned (.map (some w.heap.size)) ∧ w'.heap[w.heap.size]? = some (.map markEs 2) ∧ Below w.heap.size w w' ∧ w'.heap.size = w.heap.size + 1 := by
  have hmm := @run_makeMap Tryz.prog
  go_enter Tryz.func107, Tryz.ntmps107
  have tok1 : True := trivial
  have tok2 : True := trivial
  go_wp2_with (first
    | (have _t := tok1; refine wpList_insert_new (key := .int .i32 43) (v := .int .i64 0) rfl rfl rfl rfl rfl Tryz.underlying160 Tryz.underlying21 rfl (heap_new rfl) rfl ?_; clear tok1)
    | (have _t := tok2; refine wpList_insert_new (key := .int .i32 47) (v := .int .i64 1) rfl rfl rfl rfl rfl Tryz.underlying160 Tryz.underlying21 rfl (World.putObj_heap_same (by simp)) rfl ?_; clear tok2))
  go_ret
  refine ⟨rfl, World.putObj_heap_same (by simp), ?_, by simp⟩
  refine Below.trans (b := w.alloc (.map #[] 0)) (by go_grown) ?_
  exact ⟨rfl, rfl, rfl, by simp, fun k hk => by rw [World.putObj_heap_other (by omega), World.putObj_heap_other (by omega)]⟩
end Go.Vir

/- The range over the table of the marks: whichever comes first. -/
namespace Go.Vir
open Go Go.RowKit Go.Proofs Go.Shelf
open Go.ChangeMaps (setBlock)

def markE (k : Nat) : MapEntry := { key := .int .i32 (if k = 0 then 43 else 47), val := .int .i64 (k : Int), born := k }
theorem markEs_eq : markEs = #[markE 0, markE 1] := rfl

theorem iterSeen_of {w : World} {r bm : Nat} {seen : Array Nat} (h : w.heap[r]? = some (.mapIter (some bm) 2 seen 2)) : w.iterSeen r = seen := by
  unfold World.iterSeen; rw [h]

theorem mark_left {seen : Array Nat} {e : MapEntry} (h : e ∈ (leftOf markEs seen).toList) : ∃ k : Nat, (k = 0 ∨ k = 1) ∧ e = markE k ∧ seen.contains k = false := by
  obtain ⟨h1, h2⟩ := mem_left h
  rw [markEs_eq] at h1
  simp only [List.mem_cons, List.not_mem_nil, or_false] at h1
  rcases h1 with rfl | rfl
  · exact ⟨0, .inl rfl, rfl, h2⟩
  · exact ⟨1, .inr rfl, rfl, h2⟩

theorem left_lt {seen : Array Nat} {k : Nat} (hk : k = 0 ∨ k = 1) (h : seen.contains k = false) : (leftOf markEs (seen.push k)).size < (leftOf markEs seen).size := by
  refine left_shrinks markEs seen (markE k) ?_
  rw [Array.mem_toList_iff]
  refine Array.mem_filter.2 ⟨?_, ?_⟩
  · rcases hk with rfl | rfl <;> simp [markEs_eq]
  · show (!seen.contains k) = true
    rw [h]; rfl

theorem left_none {seen : Array Nat} (h : (leftOf markEs seen).size = 0) : seen.contains 0 = true ∧ seen.contains 1 = true :=
  ⟨all_seen markEs seen h (markE 0) (by simp [markEs_eq]), all_seen markEs seen h (markE 1) (by simp [markEs_eq])⟩

section
variable {P : Program} (w : World) {ops : Array Oper} {rest : List Oper} {o : Oper} {a : Act} {Q : Exit → Act → World → Prop}
theorem wpList_range_marks (hg : o.guard = none) (m : Operand) (t : TypeId) (hop : o.op = Op.range t m) (k e : TypeId) (ht : P.underlying t = some (.map k e)) (bm : Nat)
    (hm : a.eval m = .map (some bm)) (hb : w.heap[bm]? = some (.map markEs 2))
    (hK : wpList P ops Q rest (a.put o.dst (.pointer (some ⟨w.heap.size, 0, none⟩))) (w.alloc (.mapIter (some bm) 2 #[] 2))) :
    wpList P ops Q (o :: rest) a w := by
  refine wpList_plain hg fun K' hK' => ?_
  unfold Oper.wp
  simp [execOp, hop, hm, run_range_map w t k e bm markEs 2 ht hb, Result.andThen]
  exact hK' _ _ hK

theorem wpList_next_marks (hg : o.guard = none) (it : Operand) (hop : o.op = Op.next it false) (r bm : Nat) (seen : Array Nat)
    (hit : a.eval it = .pointer (some ⟨r, 0, none⟩)) (hr : w.heap[r]? = some (.mapIter (some bm) 2 seen 2)) (hb : w.heap[bm]? = some (.map markEs 2)) (hne : bm ≠ r)
    (hDone : (leftOf markEs seen).size = 0 → wpList P ops Q rest (a.put o.dst (.tuple #[.bool false])) w)
    (hMore : ∀ (k : Nat) (w' : World), (k = 0 ∨ k = 1) → seen.contains k = false → w.grownBy w' (some r) → w'.heap.size = w.heap.size → w'.heap[r]? = some (.mapIter (some bm) 2 (seen.push k) 2) →
      (Instr.entry (.pointer (some ⟨r, 0, none⟩))).run P w' = .ok (.tuple #[.int .i32 (if k = 0 then 43 else 47), .int .i64 (k : Int)]) w' →
      wpList P ops Q rest (a.put o.dst (.tuple #[.bool true, .int .i32 (if k = 0 then 43 else 47), .int .i64 (k : Int)])) w') :
    wpList P ops Q (o :: rest) a w := by
  refine wpList_plain hg fun K' hK' => ?_
  unfold Oper.wp
  rcases run_next_at (P := P) w o.type r bm 2 2 seen markEs 2 hr hb (by rw [markEs_eq]; simp [markE]) (Nat.le_refl _) with ⟨h0, hrun⟩ | ⟨e, he, w1, hw1, hrun⟩
  · simp [execOp, hop, hit, hrun, Result.andThen]
    exact hK' _ _ (hDone h0)
  · obtain ⟨k, hk, rfl, hc⟩ := mark_left he
    have hlt : r < w.heap.size := (Array.getElem?_eq_some_iff.1 hr).1
    have hh : w1.heap = w.heap := by rcases hw1 with rfl | rfl <;> rfl
    have e1 : (setBlock w1 r (.mapIter (some bm) 2 (seen.push k) 2)).heap = w.heap.setIfInBounds r (.mapIter (some bm) 2 (seen.push k) 2) := by unfold setBlock; rw [hh]
    have e2 : ∀ j, j ≠ r → (setBlock w1 r (.mapIter (some bm) 2 (seen.push k) 2)).heap[j]? = w.heap[j]? := fun j hj => by
      rw [e1, Array.getElem?_setIfInBounds, if_neg (Ne.symm hj)]
    have e3 : (setBlock w1 r (.mapIter (some bm) 2 (seen.push k) 2)).heap[r]? = some (.mapIter (some bm) 2 (seen.push k) 2) := by
      rw [e1, Array.getElem?_setIfInBounds, if_pos rfl, if_pos hlt]
    have e4 : (setBlock w1 r (.mapIter (some bm) 2 (seen.push k) 2)).heap.size = w.heap.size := by rw [e1]; simp
    have hen := run_entry_at (P := P) (setBlock w1 r (.mapIter (some bm) 2 (seen.push k) 2)) r bm 2 seen markEs 2 (markE k) e3 ((e2 bm hne).trans hb) (mem_left he).1 (by rw [markEs_eq]; simp [markE])
    simp [execOp, hop, hit, hrun, Result.andThen]
    refine hK' _ _ (hMore k _ hk hc ?_ e4 e3 hen)
    refine ⟨?_, ?_, ?_, Nat.le_of_eq e4.symm, fun j _ hj => e2 j (fun e => hj (by rw [e]))⟩ <;> rcases hw1 with rfl | rfl <;> rfl
end
end Go.Vir
