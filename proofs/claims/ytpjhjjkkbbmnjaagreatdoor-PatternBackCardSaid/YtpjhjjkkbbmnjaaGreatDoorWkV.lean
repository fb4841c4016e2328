/- pattern: Parse. -/
import Derived.Test.YtpjhjjkkbbmnjaaGreatDoorWkU
import Derived.Test.YtpjhjjkkbbmnjaaGreatDoorField
import Derived.Test.YtpjhjjkkbbmnjaaGreatDoorScope
namespace Go.Vir
open Go Go.RowKit Go.Proofs Go.Shelf
attribute [local go_sem] Oper.semAt_some

/-- The items of parts. -/
def itemsB (ss : List (List UInt8)) : List (List UInt8) → List (Int × Int) → Option (List (Int × Int))
  | [], acc => some acc
  | t :: ts, acc => match itemPB t ss with
    | none => none
    | some x => if acc.length = 10 then none else itemsB ss ts (acc ++ [x])
/-- A text's pattern, and why there is none. -/
def parsePB (s : List UInt8) (ss : List (List UInt8)) : (Bool × List (Int × Int)) × Int :=
  if namesB ss = false then ((false, []), 2)
  else if s = [] then ((false, []), 0)
  else if s.any badB = true then ((false, []), 80)
  else match itemsB ss (if (partsA s).head? = some [94] then (partsA s).tail else partsA s) [] with
    | some xs => ((decide ((partsA s).head? = some [94]), xs), 0)
    | none => ((false, []), 80)

/-- How the reading of a pattern ends. -/
def PatEnd (r : (Bool × List (Int × Int)) × Int) (e : Ending) (w' : World) : Prop := ∃ A n c, e = .returned (.tuple #[.agg #[.bool r.1.1, .slice A n c], .int .i64 r.2]) ∧ Prs w' w'.heap.size A n r.1.2 ∧ n ≤ 10

theorem marksA_len : ∀ (i : Bool) (l : List UInt8), (marksA i l).length = l.length
  | _, [] => rfl
  | i, b :: t => by simp [marksA, marksA_len _ t]
theorem not_bad_ascii {s : List UInt8} (h : s.any badB = false) : asciiB s = true := by
  unfold asciiB
  rw [List.all_eq_true]
  intro b hb
  have h1 : badB b = false := by
    cases hh : badB b with
    | false => rfl
    | true => rw [List.any_eq_false] at h; exact absurd hh (h b hb)
  simp only [badB, Bool.or_eq_false_iff, decide_eq_false_iff_not] at h1
  simp; omega

theorem item_info : (Tryz.prog.info? 70).map (fun i => (i.zero, i.size, i.bytes)) = some (some (.agg #[.int .i64 0, .int .i64 0]), 2, 16) := by kernel_rfl
theorem cell_two_at (w : World) (a b : Value) (t : TypeId) : ∀ j u, [a, b][j]? = some u → (w.alloc (.cells #[a, b] t)).cell? ((⟨w.heap.size, 0, none⟩ : Addr).add j) = some u := by
  intro j u hj
  match j, hj with
  | 0, hj => simp at hj; subst hj; simp [Addr.add]
  | 1, hj => simp at hj; subst hj; simp [Addr.add]
  | j + 2, hj => simp at hj
def itemVs (l : List (Int × Int)) : List Value := l.flatMap fun x => [.int .i64 x.1, .int .i64 x.2]
theorem itemVs_len (l : List (Int × Int)) : (itemVs l).length = l.length * 2 := by
  induction l with
  | nil => rfl
  | cons x t ih => simp only [itemVs, List.flatMap_cons, List.length_append, List.length_cons, List.length_nil] at ih ⊢; omega
theorem itemVs_app (l : List (Int × Int)) (x : Int × Int) : itemVs (l ++ [x]) = itemVs l ++ [.int .i64 x.1, .int .i64 x.2] := by simp [itemVs]
theorem itemVs_get : ∀ (l : List (Int × Int)) (j : Nat) (h : j < l.length), (itemVs l)[j * 2]? = some (.int .i64 l[j].1) ∧ (itemVs l)[j * 2 + 1]? = some (.int .i64 l[j].2)
  | x :: t, 0, _ => ⟨rfl, rfl⟩
  | x :: t, j + 1, h => by
    have := itemVs_get t j (by simpa using h)
    rw [show (j + 1) * 2 = j * 2 + 2 by omega]
    exact this
theorem prs_own {W : World} {base : Nat} {v : Value} {l : List (Int × Int)} (h : W.ownsRow base 70 2 v l.length (itemVs l)) : ∃ A n c, v = .slice A n c ∧ n = l.length ∧ Prs W W.heap.size A n l := by
  rcases h.2 with ⟨rfl, h2⟩ | ⟨g, cap, cur, rfl, _, hgb, hcap, _, hcs, ht⟩
  · obtain rfl : l = [] := List.eq_nil_of_length_eq_zero h2
    exact ⟨_, _, _, rfl, rfl, Prs.nil _ _ _⟩
  · refine ⟨_, _, _, rfl, rfl, rfl, fun _ => ⟨g, 0, rfl, (Array.getElem?_eq_some_iff.1 hgb).1, fun j hj => ?_⟩⟩
    obtain ⟨h1, h2⟩ := itemVs_get l j hj
    rw [← ht, List.getElem?_take] at h1 h2
    simp only [World.cell?, hgb, Nat.zero_add]
    constructor
    · split at h1
      · simpa using h1
      · cases h1
    · split at h2
      · simpa using h2
      · cases h2
theorem items_le {ss : List (List UInt8)} : ∀ (ts : List (List UInt8)) (acc xs : List (Int × Int)), acc.length ≤ 10 → itemsB ss ts acc = some xs → xs.length ≤ 10
  | [], acc, xs, h, e => by simp [itemsB] at e; subst e; exact h
  | t :: ts, acc, xs, h, e => by
    unfold itemsB at e
    split at e
    · cases e
    · split at e
      · cases e
      · exact items_le ts _ xs (by simp; omega) e

theorem kept22 {w w1 : World} {a b c d : Value} {t : TypeId} (hb : Below ((w.alloc (.cells #[a, b] t)).alloc (.cells #[c, d] t)).heap.size ((w.alloc (.cells #[a, b] t)).alloc (.cells #[c, d] t)) w1) :
    w1.heap[w.heap.size]? = some (.cells #[a, b] t (0, 0)) ∧ w1.heap[w.heap.size + 1]? = some (.cells #[c, d] t (0, 0)) ∧ Below w.heap.size w w1 := by
  have h1 := hb.block w.heap.size (by simp; omega)
  have h2 := hb.block (w.heap.size + 1) (by simp)
  refine ⟨h1.trans ((heap_old (by simp)).trans (heap_new rfl)), h2.trans (heap_new (by simp)), Below.trans (by go_grown) (hb.mono (by simp; omega))⟩

set_option maxRecDepth 100000 in
set_option maxHeartbeats 1600000 in
theorem pattern_Parse (s : List UInt8) (A : Option Addr) (n c : Nat) (ss : List (List UInt8)) (w : World) (hG : Globs w) (hn : n ≤ 1000000) (hz : Strs w w.heap.size A n ss) (hs : ∀ x ∈ ss, x.length ≤ 1000) (hl : s.length ≤ 100000) :
    Calls Tryz.prog 19 #[.string ⟨s.toArray⟩, .slice A n c] w fun e w' => PatEnd (parsePB s ss) e w' ∧ Below w.heap.size w w' := by
  have hs' : ∀ x ∈ ss, x.length ≤ 1000000 := fun x hx => by have := hs x hx; omega
  have hpa := fun W (hW : Below w.heap.size w W) => pattern_parts ⟨s.toArray⟩ W (hG.below hW) (by show s.toArray.size ≤ _; simpa using hl)
  have hnm := fun W (hW : Below w.heap.size w W) => prop_Names A n c ss W hn ((hz.below hW).more hW.size) hs'
  have hgs := hG.size
  have Hpa := Lib.hid hpa
  have Hnm := Lib.hid hnm
  clear hpa hnm hs'
  go_enter Tryz.func19, Tryz.ntmps19
  go_wp2_with fail
  refine wp_scope_once ?_
  generalize hQl : landed _ _ _ = Ql
  go_wp2_with fail
  refine (Hpa.out _ (by go_grown)).mono ?_
  rintro e w2 ⟨⟨A2, n2, l, rfl, hS2, hne, hn2, hasc⟩, hb2⟩
  obtain ⟨q0, q1, hb3⟩ := kept22 hb2
  have hl2 := hS2.len
  have Hl2 := Lib.hid hl2
  have Hasc := Lib.hid hasc
  have Hne := Lib.hid hne
  have hn2p : 0 < n2 := by rw [← hl2]; exact List.length_pos_iff.2 hne
  clear hl2 hasc hb2 hne
  go_wp2_with fail
  refine (Hnm.out _ hb3).mono ?_
  rintro e w3 ⟨rfl, hb4⟩
  have hb5 : Below w.heap.size w w3 := hb3.trans (hb4.mono hb3.size)
  have hs2 := (Array.getElem?_eq_some_iff.1 q0).1
  have hs3 := (Array.getElem?_eq_some_iff.1 q1).1
  have r0 := (hb4.block _ hs2).trans q0
  have r1 := (hb4.block _ hs3).trans q1
  have hS3 := (hS2.below hb4).more hb4.size
  have hG3 := hG.below hb5
  clear q0 q1 hb3 hS2 hs2 hs3 hb4
  have k00 := cell_blk r0 0
  have k01 := cell_blk r0 1
  have k02 := frozen_blk r0 0
  have k03 := frozen_blk r0 1
  have k10 := cell_blk r1 0
  have k11 := cell_blk r1 1
  have k12 := frozen_blk r1 0
  have k13 := frozen_blk r1 1
  simp only [List.getElem?_toArray, List.getElem?_cons_zero, List.getElem?_cons_succ] at k00 k01 k10 k11
  rcases hN : namesB ss with _ | _
  · have hp : parsePB s ss = ((false, []), 2) := by simp [parsePB, hN]
    have Hp := Lib.hid hp
    clear hp
    go_wp2
    subst hQl
    rw [landed_ret]
    obtain ⟨z0, z1⟩ := set2_cells r0 (.bool false) (.slice none 0 0)
    refine bodyPost_ret (v := .tuple #[.agg #[.bool false, .slice none 0 0], .int .i64 2]) (by simp [results, Tryz.results19, go_sem, z0, z1]) rfl ⟨by rw [Hp.out]; exact ⟨_, _, _, rfl, Prs.nil _ _ _, by omega⟩, (hb5.setCell (p := ⟨w.heap.size, 0, none⟩) (Nat.le_refl _) _).setCell (p := ⟨w.heap.size, 1, none⟩) (Nat.le_refl _) _⟩
  · rcases hse : s with _ | ⟨s0, st⟩
    · subst hse
      have hp : parsePB [] ss = ((false, []), 0) := by simp [parsePB, hN]
      have Hp := Lib.hid hp
      clear hp
      go_wp2
      subst hQl
      rw [landed_ret]
      obtain ⟨z0, z1⟩ := set2_cells r0 (.bool false) (.slice none 0 0)
      refine bodyPost_ret (v := .tuple #[.agg #[.bool false, .slice none 0 0], .int .i64 0]) (by simp [results, Tryz.results19, go_sem, z0, z1]) rfl ⟨by rw [Hp.out]; exact ⟨_, _, _, rfl, Prs.nil _ _ _, by omega⟩, (hb5.setCell (p := ⟨w.heap.size, 0, none⟩) (Nat.le_refl _) _).setCell (p := ⟨w.heap.size, 1, none⟩) (Nat.le_refl _) _⟩
    · have hsne : ¬ s = [] := by rw [hse]; simp
      rw [← hse]
      have hsemp : s.isEmpty = false := by rw [hse]; rfl
      clear hse
      obtain ⟨cb, WB, hcv, hBy, hbB⟩ := run_bytes ⟨s.toArray⟩ w3
      have hcf := containsFunc_byte _ _ cb s WB (enters_of Tryz.func60 (by kernel_rfl) rfl) hBy (says_bad WB) (by show s.toArray.size ≤ _; simp; omega)
      have hfacts : ∀ W, Below WB.heap.size WB W → Below w.heap.size w W ∧ W.heap[w.heap.size]? = some (.cells #[.bool false, .slice none 0 0] 24 (0, 0)) ∧ W.heap[w.heap.size + 1]? = some (.cells #[.bool false, .slice none 0 0] 24 (0, 0)) ∧ Strs W W.heap.size A2 n2 l := fun W hW => by
        have h1 := hbB.trans (hW.mono hbB.size)
        exact ⟨hb5.trans (h1.mono hb5.size), (h1.block _ (Array.getElem?_eq_some_iff.1 r0).1).trans r0, (h1.block _ (Array.getElem?_eq_some_iff.1 r1).1).trans r1, (hS3.below h1).more h1.size⟩
      have Hfacts := Lib.hid hfacts
      clear hfacts
      rcases hbad : s.any badB with _ | _
      · rw [hbad] at hcf
        have hpb : parsePB s ss = match itemsB ss (if (partsA s).head? = some [94] then (partsA s).tail else partsA s) [] with
            | some xs => ((decide ((partsA s).head? = some [94]), xs), 0)
            | none => ((false, []), 80) := by simp [parsePB, hN, hsne, hbad]
        have htl0 : ∀ t ∈ l, t.length ≤ 100000 := fun t ht => by
          rw [Hasc.out (not_bad_ascii hbad)] at ht
          have h1 := (splitL_mem 10 _ t ht).1
          rw [marksA_len] at h1
          omega
        have Htl0 := Lib.hid htl0
        clear htl0
        rw [← Hasc.out (not_bad_ascii hbad)] at hpb
        have Hpb := Lib.hid hpb
        clear hpb hbad k00 k01 k10 k11 k02 k03 k12 k13 r0 r1
        obtain ⟨l0, lt, hll⟩ : ∃ l0 lt, l = l0 :: lt := by
          cases l with
          | nil => exact absurd rfl Hne.out
          | cons a b => exact ⟨a, b, rfl⟩
        by_cases h94 : l0 = [94]
        · have e94 : (l0 == [94]) = true := by simpa using h94
          have hpb2 : parsePB s ss = match itemsB ss lt [] with
            | some xs => ((true, xs), 0)
            | none => ((false, []), 80) := by
            have := Hpb.out
            rw [hll] at this
            simpa [h94] using this
          have Hpb2 := Lib.hid hpb2
          clear hpb2 Hpb h94
          go_wp2_with fail
          refine hcf.mono ?_
          rintro e w4 ⟨rfl, hb6⟩
          obtain ⟨hb7, r0, r1, hS4⟩ := Hfacts.out w4 hb6
          obtain ⟨zb, zo, rfl, hzb, hzc⟩ := hS4.at_ hn2p
          have z0 := hzc 0 (by rw [hll]; simp)
          simp only [hll, List.getElem_cons_zero, Nat.add_zero] at z0
          have Hll := Lib.hid hll
          have hdec : decide (0 < n2) = true := by simpa using hn2p
          have k10 := cell_blk r1 0
          have k12 := frozen_blk r1 0
          simp only [List.getElem?_toArray, List.getElem?_cons_zero] at k10
          clear hzc hll hb6 hcf
          by_cases h1 : n2 = 1
          · subst h1
            obtain rfl : lt = [] := by
              have := Hl2.out
              rw [Hll.out] at this
              exact List.eq_nil_of_length_eq_zero (by simpa using this)
            go_wp2
            go_region
            generalize hW9 : (w4.setCell ⟨w.heap.size + 1, 0, none⟩ (.bool true)).drew = W9 at *
            have hb9 : Below w.heap.size w W9 := by rw [← hW9]; exact (hb7.setCell (p := ⟨w.heap.size + 1, 0, none⟩) (Nat.le_succ _) _).drew
            have r9 : W9.heap[w.heap.size]? = some (.cells #[.bool false, .slice none 0 0] 24 (0, 0)) := by rw [← hW9]; exact (Below.heap_setCell _ _ _ _ (Nat.ne_of_lt (Nat.lt_succ_self _))).trans r0
            have r8 : W9.heap[w.heap.size + 1]? = some (.cells #[.bool true, .slice none 0 0] 24 (0, 0)) := by rw [← hW9]; exact setCell_blk r1 0 (.bool true)
            have hST : Strs W9 W9.heap.size (some ⟨zb, zo, none⟩) 0 [] := Strs.nil _ _ _
            clear hb7 r0 r1 z0 k10 k12 hW9 hS4
            have hb7 := hb9
            have r0 := r9
            have r1 := r8
            clear hb9 r9 r8
            go_wp2
            obtain ⟨i0, hi0, hz0, hz1, hz2⟩ := info_parts item_info
            have hs4 := hb7.size
            have hs4' := (Array.getElem?_eq_some_iff.1 r1).1
            go_loopw [37] (fun i wr => ∃ (k : Nat) (v : Value) (acc : List (Int × Int)), k ≤ 0 ∧ i = .int .i64 (k : Int) ∧ Below w.heap.size w wr ∧ W9.heap.size ≤ wr.heap.size ∧ wr.heap[w.heap.size]? = some (.cells #[.bool false, .slice none 0 0] 24 (0, 0)) ∧
                wr.heap[w.heap.size + 1]? = some (.cells #[.bool true, v] 24 (0, 0)) ∧ Strs wr W9.heap.size (some ⟨zb, zo, none⟩) 0 ([] : List (List UInt8)) ∧ wr.ownsRow W9.heap.size 70 2 v acc.length (itemVs acc) ∧ acc.length ≤ 10 ∧ itemsB ss ([] : List (List UInt8)) [] = itemsB ss (([] : List (List UInt8)).drop k) acc) (fun i _ => 0 - (RowKit.intOf i).toNat)
            case atStart => exact ⟨0, _, [], Nat.zero_le _, rfl, hb7, Nat.le_refl _, r0, r1, hST, World.ownsRow_nil _ _ _ _, by simp, rfl⟩
            case round =>
              obtain ⟨k, v, acc, hk, rfl, hbr, hsr, q0, q1, hSr, hown, hacc, hit⟩ := hrel
              obtain ⟨A', n', c', rfl, hn', hPr⟩ := prs_own hown
              have Hit := Lib.hid hit
              have Hn' := Lib.hid hn'
              have hn'10 : n' ≤ 10 := by omega
              clear hit hn'
              rcases Nat.lt_or_ge k (0) with hlt | hge
              · exact absurd hlt (Nat.not_lt_zero _)
              · have hp : parsePB s ss = ((true, acc), 0) := by
                  rw [Hpb2.out, Hit.out, List.drop_eq_nil_of_le (by have := hSr.len; omega), itemsB]
                have Hp := Lib.hid hp
                clear hp
                have k00 := cell_blk q0 0
                have k01 := cell_blk q0 1
                have k02 := frozen_blk q0 0
                have k03 := frozen_blk q0 1
                have k10 := cell_blk q1 0
                have k11 := cell_blk q1 1
                simp only [List.getElem?_toArray, List.getElem?_cons_zero, List.getElem?_cons_succ] at k00 k01 k10 k11
                go_wp2
                subst hQl
                rw [landed_ret]
                obtain ⟨z0, z1⟩ := set2_cells q0 (.bool true) (.slice A' n' c')
                have hs9 : Below w.heap.size w ((wr.setCell ⟨w.heap.size, 0, none⟩ (.bool true)).setCell ⟨w.heap.size, 1, none⟩ (.slice A' n' c')) := (hbr.setCell (p := ⟨w.heap.size, 0, none⟩) (Nat.le_refl _) _).setCell (p := ⟨w.heap.size, 1, none⟩) (Nat.le_refl _) _
                have hown9 : ((wr.setCell ⟨w.heap.size, 0, none⟩ (.bool true)).setCell ⟨w.heap.size, 1, none⟩ (.slice A' n' c')).ownsRow W9.heap.size 70 2 (.slice A' n' c') acc.length (itemVs acc) := by
                  have h1 := hown.kept (grownBy_setCell2 wr w.heap.size 0 (.bool true)) (.inr (blk_not_row q0 (by decide) hown).symm)
                  have h2 := setCell_blk q0 0 (.bool true)
                  exact h1.kept (grownBy_setCell2 _ w.heap.size 1 (.slice A' n' c')) (.inr (blk_not_row h2 (by decide) h1).symm)
                obtain ⟨A9, n9, c9, he9, _, hP9⟩ := prs_own hown9
                injection he9 with e1 e2 e3
                subst e1 e2 e3
                refine bodyPost_ret (v := .tuple #[.agg #[.bool true, .slice A' n' c'], .int .i64 0]) (by simp [results, Tryz.results19, go_sem, z0, z1]) rfl ⟨by rw [Hp.out]; exact ⟨_, _, _, rfl, hP9, hn'10⟩, hs9⟩
          · obtain ⟨q, rfl⟩ : ∃ q, n2 = q + 1 := ⟨n2 - 1, by omega⟩
            have hd1 : decide (q + 1 < 1) = false := by simp
            have hq0 : 0 < q := by omega
            have hltl : lt.length = q := by
              have := Hl2.out
              rw [Hll.out] at this
              simpa using this
            have hST4 : ∀ (j : Nat) (hj : j < lt.length), w4.cell? ⟨zb, zo + 1 + j, none⟩ = some (.string ⟨lt[j].toArray⟩) := fun j hj => by
              obtain ⟨vb, vo, hva, hvb, hvc⟩ := hS4.at_ (by omega)
              have hv : zb = vb ∧ zo = vo := by simpa using hva
              obtain ⟨rfl, rfl⟩ := hv
              have h3 := hvc (j + 1) (by rw [Hll.out]; simp; omega)
              simp only [Hll.out, List.getElem_cons_succ] at h3
              rw [show zo + 1 + j = zo + (j + 1) by omega]
              exact h3
            have hzne : zb ≠ w.heap.size + 1 := by
              rintro rfl
              have := cell_blk r1 zo
              rw [z0] at this
              match zo, this with
              | 0, h => simp at h
              | 1, h => simp at h
              | q + 2, h => simp at h
            have Hltl := Lib.hid hltl
            have HST4 := Lib.hid hST4
            clear hltl hST4 h1
            go_wp2
            go_region
            generalize hW9 : (w4.setCell ⟨w.heap.size + 1, 0, none⟩ (.bool true)).drew = W9 at *
            have hb9 : Below w.heap.size w W9 := by rw [← hW9]; exact (hb7.setCell (p := ⟨w.heap.size + 1, 0, none⟩) (Nat.le_succ _) _).drew
            have r9 : W9.heap[w.heap.size]? = some (.cells #[.bool false, .slice none 0 0] 24 (0, 0)) := by rw [← hW9]; exact (Below.heap_setCell _ _ _ _ (Nat.ne_of_lt (Nat.lt_succ_self _))).trans r0
            have r8 : W9.heap[w.heap.size + 1]? = some (.cells #[.bool true, .slice none 0 0] 24 (0, 0)) := by rw [← hW9]; exact setCell_blk r1 0 (.bool true)
            have hST : Strs W9 W9.heap.size (some ⟨zb, zo + 1, none⟩) q lt := ⟨Hltl.out, fun _ => ⟨zb, zo + 1, rfl, by rw [← hW9]; show zb < (w4.setCell _ _).heap.size; simpa [World.setCell] using hzb, fun j hj => by
              rw [← hW9]
              exact (World.cell?_setCell_other _ _ _ _ (by simp)).trans (HST4.out j hj)⟩⟩
            have Htl : Hid (∀ t ∈ lt, t.length ≤ 100000) := Lib.hid fun t ht => Htl0.out t (by rw [Hll.out]; exact List.mem_cons_of_mem _ ht)
            clear hb7 r0 r1 z0 k10 k12 hW9 hS4
            have hb7 := hb9
            have r0 := r9
            have r1 := r8
            clear hb9 r9 r8
            go_wp2
            obtain ⟨i0, hi0, hz0, hz1, hz2⟩ := info_parts item_info
            have hs4 := hb7.size
            have hs4' := (Array.getElem?_eq_some_iff.1 r1).1
            go_loopw [37] (fun i wr => ∃ (k : Nat) (v : Value) (acc : List (Int × Int)), k ≤ q ∧ i = .int .i64 (k : Int) ∧ Below w.heap.size w wr ∧ W9.heap.size ≤ wr.heap.size ∧ wr.heap[w.heap.size]? = some (.cells #[.bool false, .slice none 0 0] 24 (0, 0)) ∧
                wr.heap[w.heap.size + 1]? = some (.cells #[.bool true, v] 24 (0, 0)) ∧ Strs wr W9.heap.size (some ⟨zb, zo + 1, none⟩) q lt ∧ wr.ownsRow W9.heap.size 70 2 v acc.length (itemVs acc) ∧ acc.length ≤ 10 ∧ itemsB ss lt [] = itemsB ss (lt.drop k) acc) (fun i _ => q - (RowKit.intOf i).toNat)
            case atStart => exact ⟨0, _, [], Nat.zero_le _, rfl, hb7, Nat.le_refl _, r0, r1, hST, World.ownsRow_nil _ _ _ _, by simp, rfl⟩
            case round =>
              obtain ⟨k, v, acc, hk, rfl, hbr, hsr, q0, q1, hSr, hown, hacc, hit⟩ := hrel
              obtain ⟨A', n', c', rfl, hn', hPr⟩ := prs_own hown
              have Hit := Lib.hid hit
              have Hn' := Lib.hid hn'
              have hn'10 : n' ≤ 10 := by omega
              clear hit hn'
              rcases Nat.lt_or_ge k (q) with hlt | hge
              · obtain ⟨yb, yo, hya, hyb, hyc⟩ := hSr.at_ (by omega)
                have hkl : k < lt.length := by have := hSr.len; omega
                have y0 := hyc k hkl
                have Hdrop := Lib.hid (List.drop_eq_getElem_cons hkl)
                have htl := Htl.out _ (List.getElem_mem hkl)
                generalize lt[k] = t at y0 Hdrop htl
                have hitem := pattern_item t A n c ss wr (hG.below hbr) hn ((hz.below hbr).more hbr.size) hs (by omega)
                obtain ⟨rfl, rfl⟩ : zb = yb ∧ zo + 1 = yo := by simpa using hya
                clear hyc
                rcases hio : itemPB t ss with _ | x
                · rw [hio] at hitem
                  have hp : parsePB s ss = ((false, []), 80) := by
                    rw [Hpb2.out, Hit.out, Hdrop.out, itemsB, hio]
                  have Hp := Lib.hid hp
                  clear hp hio
                  go_wp2_with fail
                  refine hitem.mono ?_
                  rintro e w5 ⟨⟨pp, rfl⟩, hb8⟩
                  have hb9 : Below w.heap.size w w5 := hbr.trans (hb8.mono hbr.size)
                  have p0 := (hb8.block _ (Array.getElem?_eq_some_iff.1 q0).1).trans q0
                  obtain ⟨pq, hgp⟩ := (hG.below (hb9.alloc hb9.size (.cells #[.int .i64 0, .int .i64 0] 70))).pat
                  have p1 : (w5.alloc (.cells #[.int .i64 0, .int .i64 0] 70)).heap[w.heap.size]? = some (.cells #[.bool false, .slice none 0 0] 24 (0, 0)) := (heap_old (Array.getElem?_eq_some_iff.1 p0).1).trans p0
                  have k00 := cell_blk p1 0
                  have k01 := cell_blk p1 1
                  have k02 := frozen_blk p1 0
                  have k03 := frozen_blk p1 1
                  simp only [List.getElem?_toArray, List.getElem?_cons_zero, List.getElem?_cons_succ] at k00 k01
                  go_wp2
                  go_step3
                  go_simp
                  subst hQl
                  refine landed_goto (by rfl) ?_
                  go_wp2_with (go_at_call 52; refine (pattern_told pq _ hgp).mono ?_; rintro e w' ⟨rfl, rfl⟩)
                  try rw [Exit.noGoto_ret]
                  obtain ⟨z0, z1⟩ := set2_cells p1 (.bool false) (.slice none 0 0)
                  refine bodyPost_ret (v := .tuple #[.agg #[.bool false, .slice none 0 0], .int .i64 80]) (by simp [results, Tryz.results19, go_sem, z0, z1]) rfl ⟨by rw [Hp.out]; exact ⟨_, _, _, rfl, Prs.nil _ _ _, by omega⟩, ((hb9.alloc hb9.size _).setCell (p := ⟨w.heap.size, 0, none⟩) (Nat.le_refl _) _).setCell (p := ⟨w.heap.size, 1, none⟩) (Nat.le_refl _) _⟩
                · rw [hio] at hitem
                  obtain ⟨x0, x1⟩ := x
                  go_wp2_with fail
                  refine hitem.mono ?_
                  rintro e w5 ⟨he, hb8⟩
                  obtain rfl := he
                  have hb9 : Below w.heap.size w w5 := hbr.trans (hb8.mono hbr.size)
                  have p0 := (hb8.block _ (Array.getElem?_eq_some_iff.1 q0).1).trans q0
                  have p1 := (hb8.block _ (Array.getElem?_eq_some_iff.1 q1).1).trans q1
                  have hown5 := ownsRow_below hown hb8
                  have hS5 := hSr.below (hb8.mono hsr)
                  have hs5 := hb8.size
                  have hl5 := (Array.getElem?_eq_some_iff.1 p1).1
                  have u1 : (w5.alloc (.cells #[.int .i64 x0, .int .i64 x1] 70)).heap[w.heap.size + 1]? = some (.cells #[.bool true, .slice A' n' c'] 24 (0, 0)) := (heap_old hl5).trans p1
                  have u0 : (w5.alloc (.cells #[.int .i64 x0, .int .i64 x1] 70)).heap[w.heap.size]? = some (.cells #[.bool false, .slice none 0 0] 24 (0, 0)) := (heap_old (Array.getElem?_eq_some_iff.1 p0).1).trans p0
                  have k11 := cell_blk u1 1
                  simp only [List.getElem?_toArray, List.getElem?_cons_zero, List.getElem?_cons_succ] at k11
                  have hbA : Below w.heap.size w (w5.alloc (.cells #[.int .i64 x0, .int .i64 x1] 70)) := hb9.alloc hb9.size _
                  clear y0 hown q0 q1 hSr p1
                  by_cases h10 : acc.length = 10
                  · have hp : parsePB s ss = ((false, []), 80) := by
                      rw [Hpb2.out, Hit.out, Hdrop.out, itemsB, hio]
                      simp [h10]
                    have Hp := Lib.hid hp
                    have e10 : ((n' : Int) == 10) = true := by
                      have := Hn'.out
                      rw [beq_iff_eq]; omega
                    clear hp hio h10
                    obtain ⟨pq, hgp⟩ := (hG.below hbA).pat
                    have k00 := cell_blk u0 0
                    have k01 := cell_blk u0 1
                    have k02 := frozen_blk u0 0
                    have k03 := frozen_blk u0 1
                    simp only [List.getElem?_toArray, List.getElem?_cons_zero, List.getElem?_cons_succ] at k00 k01
                    go_wp2
                    go_step3
                    go_simp
                    subst hQl
                    refine landed_goto (by rfl) ?_
                    go_wp2_with (go_at_call 52; refine (pattern_told pq _ hgp).mono ?_; rintro e w' ⟨rfl, rfl⟩)
                    try rw [Exit.noGoto_ret]
                    obtain ⟨z0, z1⟩ := set2_cells u0 (.bool false) (.slice none 0 0)
                    refine bodyPost_ret (v := .tuple #[.agg #[.bool false, .slice none 0 0], .int .i64 80]) (by simp [results, Tryz.results19, go_sem, z0, z1]) rfl ⟨by rw [Hp.out]; exact ⟨_, _, _, rfl, Prs.nil _ _ _, by omega⟩, (hbA.setCell (p := ⟨w.heap.size, 0, none⟩) (Nat.le_refl _) _).setCell (p := ⟨w.heap.size, 1, none⟩) (Nat.le_refl _) _⟩
                  · have hit2 : itemsB ss lt [] = itemsB ss (lt.drop (k + 1)) (acc ++ [(x0, x1)]) := by
                      rw [Hit.out, Hdrop.out, itemsB, hio]
                      simp [h10]
                    have Hit2 := Lib.hid hit2
                    have e10 : ((n' : Int) == 10) = false := by
                      have := Hn'.out
                      rw [beq_eq_false_iff_ne]; omega
                    have hacc9 : acc.length < 10 := by omega
                    have hownA : (w5.alloc (.cells #[.int .i64 x0, .int .i64 x1] 70)).ownsRow W9.heap.size 70 2 (.slice A' n' c') acc.length (itemVs acc) := hown5.alloc _
                    have hcA : ∀ (j : Nat) (u : Value), [Value.int .i64 x0, .int .i64 x1][j]? = some u → ((w5.alloc (.cells #[.int .i64 x0, .int .i64 x1] 70)).alloc (.cells #[.int .i64 x0, .int .i64 x1] 70)).cell? ((⟨w5.heap.size + 1, 0, none⟩ : Addr).add j) = some u := by
                      have := cell_two_at (w5.alloc (.cells #[.int .i64 x0, .int .i64 x1] 70)) (.int .i64 x0) (.int .i64 x1) 70
                      rw [World.size_alloc] at this
                      exact this
                    have Hb4 := Lib.hid (show W9.heap.size ≤ (w5.alloc (.cells #[.int .i64 x0, .int .i64 x1] 70)).heap.size by simp; omega)
                    clear hit2 hio h10
                    go_wp2_with (at_builtin; refine wpList_append_at _ rfl _ _ 22 rfl W9.heap.size 70 i0 (.agg #[.int .i64 0, .int .i64 0]) 2 16 Tryz.underlying22 hi0 hz0 hz1 hz2 rfl (by decide) (.slice A' n' c') acc.length (itemVs acc) rfl (hownA.alloc _) ⟨w5.heap.size + 1, 0, none⟩ 1 1 [.int .i64 x0, .int .i64 x1] rfl rfl hcA (by simp [Value.oneCell']) (by simp only [maxLen]; omega) (by omega) (by simp; omega) ?_; intro v' w8 hown8 hgrow hat; obtain ⟨g8, cap8, rfl⟩ := ownsRow_succ hown8; have hfa := field_appended2 (n₀ := w.heap.size) (j := 1) u1 (by decide) hownA Hb4.out hs4 (Nat.le_succ _) hown8 hgrow; obtain ⟨f1, f2, f3, f4, f5⟩ := hfa; have c1 := cell_blk f1 1; have c2 := frozen_blk f1 1)
                    go_roundw
                    case rel =>
                      refine ⟨k + 1, _, acc ++ [(x0, x1)], by omega, by go_num, hbA.trans f4, ?_, ?_, f2, ?_, ?_, by simp; omega, Hit2.out⟩
                      · have := hown8.1; have := hgrow.size; simp at this ⊢; omega
                      · exact (f5 _ (by omega) (by omega)).trans u0
                      · refine ⟨hS5.len, fun h0 => ?_⟩
                        obtain ⟨vb, vo, hva, hvb, hvc⟩ := hS5.at_ h0
                        refine ⟨vb, vo, hva, hvb, fun j hj => ?_⟩
                        have hvz : vb = zb := by
                          have := hva; simp at this; exact this.1.symm
                        subst hvz
                        rw [World.cell?_of_block (a := ⟨vb, vo + j, none⟩) (f5 vb hvb hzne)]
                        exact (World.cell?_alloc_lt _ _ _ (by show vb < _; omega)).trans (hvc j hj)
                      · rw [itemVs_app, List.length_append]
                        exact f3
                    case measure => simp [RowKit.intOf]; omega
              · have hp : parsePB s ss = ((true, acc), 0) := by
                  rw [Hpb2.out, Hit.out, List.drop_eq_nil_of_le (by have := hSr.len; omega), itemsB]
                have Hp := Lib.hid hp
                clear hp
                have k00 := cell_blk q0 0
                have k01 := cell_blk q0 1
                have k02 := frozen_blk q0 0
                have k03 := frozen_blk q0 1
                have k10 := cell_blk q1 0
                have k11 := cell_blk q1 1
                simp only [List.getElem?_toArray, List.getElem?_cons_zero, List.getElem?_cons_succ] at k00 k01 k10 k11
                go_wp2
                subst hQl
                rw [landed_ret]
                obtain ⟨z0, z1⟩ := set2_cells q0 (.bool true) (.slice A' n' c')
                have hs9 : Below w.heap.size w ((wr.setCell ⟨w.heap.size, 0, none⟩ (.bool true)).setCell ⟨w.heap.size, 1, none⟩ (.slice A' n' c')) := (hbr.setCell (p := ⟨w.heap.size, 0, none⟩) (Nat.le_refl _) _).setCell (p := ⟨w.heap.size, 1, none⟩) (Nat.le_refl _) _
                have hown9 : ((wr.setCell ⟨w.heap.size, 0, none⟩ (.bool true)).setCell ⟨w.heap.size, 1, none⟩ (.slice A' n' c')).ownsRow W9.heap.size 70 2 (.slice A' n' c') acc.length (itemVs acc) := by
                  have h1 := hown.kept (grownBy_setCell2 wr w.heap.size 0 (.bool true)) (.inr (blk_not_row q0 (by decide) hown).symm)
                  have h2 := setCell_blk q0 0 (.bool true)
                  exact h1.kept (grownBy_setCell2 _ w.heap.size 1 (.slice A' n' c')) (.inr (blk_not_row h2 (by decide) h1).symm)
                obtain ⟨A9, n9, c9, he9, _, hP9⟩ := prs_own hown9
                injection he9 with e1 e2 e3
                subst e1 e2 e3
                refine bodyPost_ret (v := .tuple #[.agg #[.bool true, .slice A' n' c'], .int .i64 0]) (by simp [results, Tryz.results19, go_sem, z0, z1]) rfl ⟨by rw [Hp.out]; exact ⟨_, _, _, rfl, hP9, hn'10⟩, hs9⟩
        · have e94 : (l0 == [94]) = false := by simpa using h94
          have hpb2 : parsePB s ss = match itemsB ss l [] with
            | some xs => ((false, xs), 0)
            | none => ((false, []), 80) := by
            have := Hpb.out
            rw [hll] at this ⊢
            simpa [h94] using this
          have Hpb2 := Lib.hid hpb2
          clear hpb2 Hpb h94
          go_wp2_with fail
          refine hcf.mono ?_
          rintro e w4 ⟨rfl, hb6⟩
          obtain ⟨hb7, r0, r1, hS4⟩ := Hfacts.out w4 hb6
          obtain ⟨zb, zo, rfl, hzb, hzc⟩ := hS4.at_ hn2p
          have z0 := hzc 0 (by rw [hll]; simp)
          simp only [hll, List.getElem_cons_zero, Nat.add_zero] at z0
          have Hll := Lib.hid hll
          have hdec : decide (0 < n2) = true := by simpa using hn2p
          clear hzc hll hb6 hcf
          go_wp2
          have hST := hS4
          have Htl : Hid (∀ t ∈ l, t.length ≤ 100000) := Lib.hid Htl0.out
          obtain ⟨i0, hi0, hz0, hz1, hz2⟩ := info_parts item_info
          have hzne : zb ≠ w.heap.size + 1 := by
            rintro rfl
            have := cell_blk r1 zo
            rw [z0] at this
            match zo, this with
            | 0, h => simp at h
            | 1, h => simp at h
            | q + 2, h => simp at h
          have hs4 := hb7.size
          have hs4' := (Array.getElem?_eq_some_iff.1 r1).1
          clear z0
          go_loopw [37] (fun i wr => ∃ (k : Nat) (v : Value) (acc : List (Int × Int)), k ≤ n2 ∧ i = .int .i64 (k : Int) ∧ Below w.heap.size w wr ∧ w4.heap.size ≤ wr.heap.size ∧ wr.heap[w.heap.size]? = some (.cells #[.bool false, .slice none 0 0] 24 (0, 0)) ∧
              wr.heap[w.heap.size + 1]? = some (.cells #[.bool false, v] 24 (0, 0)) ∧ Strs wr w4.heap.size (some ⟨zb, zo, none⟩) n2 l ∧ wr.ownsRow w4.heap.size 70 2 v acc.length (itemVs acc) ∧ acc.length ≤ 10 ∧ itemsB ss l [] = itemsB ss (l.drop k) acc) (fun i _ => n2 - (RowKit.intOf i).toNat)
          case atStart => exact ⟨0, _, [], Nat.zero_le _, rfl, hb7, Nat.le_refl _, r0, r1, hST, World.ownsRow_nil _ _ _ _, by simp, rfl⟩
          case round =>
            obtain ⟨k, v, acc, hk, rfl, hbr, hsr, q0, q1, hSr, hown, hacc, hit⟩ := hrel
            obtain ⟨A', n', c', rfl, hn', hPr⟩ := prs_own hown
            have Hit := Lib.hid hit
            have Hn' := Lib.hid hn'
            have hn'10 : n' ≤ 10 := by omega
            clear hit hn'
            rcases Nat.lt_or_ge k (n2) with hlt | hge
            · obtain ⟨yb, yo, hya, hyb, hyc⟩ := hSr.at_ (by omega)
              have hkl : k < l.length := by have := hSr.len; omega
              have y0 := hyc k hkl
              have Hdrop := Lib.hid (List.drop_eq_getElem_cons hkl)
              have htl := Htl.out _ (List.getElem_mem hkl)
              generalize l[k] = t at y0 Hdrop htl
              have hitem := pattern_item t A n c ss wr (hG.below hbr) hn ((hz.below hbr).more hbr.size) hs (by omega)
              obtain ⟨rfl, rfl⟩ : zb = yb ∧ zo = yo := by simpa using hya
              clear hyc
              rcases hio : itemPB t ss with _ | x
              · rw [hio] at hitem
                have hp : parsePB s ss = ((false, []), 80) := by
                  rw [Hpb2.out, Hit.out, Hdrop.out, itemsB, hio]
                have Hp := Lib.hid hp
                clear hp hio
                go_wp2_with fail
                refine hitem.mono ?_
                rintro e w5 ⟨⟨pp, rfl⟩, hb8⟩
                have hb9 : Below w.heap.size w w5 := hbr.trans (hb8.mono hbr.size)
                have p0 := (hb8.block _ (Array.getElem?_eq_some_iff.1 q0).1).trans q0
                obtain ⟨pq, hgp⟩ := (hG.below (hb9.alloc hb9.size (.cells #[.int .i64 0, .int .i64 0] 70))).pat
                have p1 : (w5.alloc (.cells #[.int .i64 0, .int .i64 0] 70)).heap[w.heap.size]? = some (.cells #[.bool false, .slice none 0 0] 24 (0, 0)) := (heap_old (Array.getElem?_eq_some_iff.1 p0).1).trans p0
                have k00 := cell_blk p1 0
                have k01 := cell_blk p1 1
                have k02 := frozen_blk p1 0
                have k03 := frozen_blk p1 1
                simp only [List.getElem?_toArray, List.getElem?_cons_zero, List.getElem?_cons_succ] at k00 k01
                go_wp2
                go_step3
                go_simp
                subst hQl
                refine landed_goto (by rfl) ?_
                go_wp2_with (go_at_call 52; refine (pattern_told pq _ hgp).mono ?_; rintro e w' ⟨rfl, rfl⟩)
                try rw [Exit.noGoto_ret]
                obtain ⟨z0, z1⟩ := set2_cells p1 (.bool false) (.slice none 0 0)
                refine bodyPost_ret (v := .tuple #[.agg #[.bool false, .slice none 0 0], .int .i64 80]) (by simp [results, Tryz.results19, go_sem, z0, z1]) rfl ⟨by rw [Hp.out]; exact ⟨_, _, _, rfl, Prs.nil _ _ _, by omega⟩, ((hb9.alloc hb9.size _).setCell (p := ⟨w.heap.size, 0, none⟩) (Nat.le_refl _) _).setCell (p := ⟨w.heap.size, 1, none⟩) (Nat.le_refl _) _⟩
              · rw [hio] at hitem
                obtain ⟨x0, x1⟩ := x
                go_wp2_with fail
                refine hitem.mono ?_
                rintro e w5 ⟨he, hb8⟩
                obtain rfl := he
                have hb9 : Below w.heap.size w w5 := hbr.trans (hb8.mono hbr.size)
                have p0 := (hb8.block _ (Array.getElem?_eq_some_iff.1 q0).1).trans q0
                have p1 := (hb8.block _ (Array.getElem?_eq_some_iff.1 q1).1).trans q1
                have hown5 := ownsRow_below hown hb8
                have hS5 := hSr.below (hb8.mono hsr)
                have hs5 := hb8.size
                have hl5 := (Array.getElem?_eq_some_iff.1 p1).1
                have u1 : (w5.alloc (.cells #[.int .i64 x0, .int .i64 x1] 70)).heap[w.heap.size + 1]? = some (.cells #[.bool false, .slice A' n' c'] 24 (0, 0)) := (heap_old hl5).trans p1
                have u0 : (w5.alloc (.cells #[.int .i64 x0, .int .i64 x1] 70)).heap[w.heap.size]? = some (.cells #[.bool false, .slice none 0 0] 24 (0, 0)) := (heap_old (Array.getElem?_eq_some_iff.1 p0).1).trans p0
                have k11 := cell_blk u1 1
                simp only [List.getElem?_toArray, List.getElem?_cons_zero, List.getElem?_cons_succ] at k11
                have hbA : Below w.heap.size w (w5.alloc (.cells #[.int .i64 x0, .int .i64 x1] 70)) := hb9.alloc hb9.size _
                clear y0 hown q0 q1 hSr p1
                by_cases h10 : acc.length = 10
                · have hp : parsePB s ss = ((false, []), 80) := by
                    rw [Hpb2.out, Hit.out, Hdrop.out, itemsB, hio]
                    simp [h10]
                  have Hp := Lib.hid hp
                  have e10 : ((n' : Int) == 10) = true := by
                    have := Hn'.out
                    rw [beq_iff_eq]; omega
                  clear hp hio h10
                  obtain ⟨pq, hgp⟩ := (hG.below hbA).pat
                  have k00 := cell_blk u0 0
                  have k01 := cell_blk u0 1
                  have k02 := frozen_blk u0 0
                  have k03 := frozen_blk u0 1
                  simp only [List.getElem?_toArray, List.getElem?_cons_zero, List.getElem?_cons_succ] at k00 k01
                  go_wp2
                  go_step3
                  go_simp
                  subst hQl
                  refine landed_goto (by rfl) ?_
                  go_wp2_with (go_at_call 52; refine (pattern_told pq _ hgp).mono ?_; rintro e w' ⟨rfl, rfl⟩)
                  try rw [Exit.noGoto_ret]
                  obtain ⟨z0, z1⟩ := set2_cells u0 (.bool false) (.slice none 0 0)
                  refine bodyPost_ret (v := .tuple #[.agg #[.bool false, .slice none 0 0], .int .i64 80]) (by simp [results, Tryz.results19, go_sem, z0, z1]) rfl ⟨by rw [Hp.out]; exact ⟨_, _, _, rfl, Prs.nil _ _ _, by omega⟩, (hbA.setCell (p := ⟨w.heap.size, 0, none⟩) (Nat.le_refl _) _).setCell (p := ⟨w.heap.size, 1, none⟩) (Nat.le_refl _) _⟩
                · have hit2 : itemsB ss l [] = itemsB ss (l.drop (k + 1)) (acc ++ [(x0, x1)]) := by
                    rw [Hit.out, Hdrop.out, itemsB, hio]
                    simp [h10]
                  have Hit2 := Lib.hid hit2
                  have e10 : ((n' : Int) == 10) = false := by
                    have := Hn'.out
                    rw [beq_eq_false_iff_ne]; omega
                  have hacc9 : acc.length < 10 := by omega
                  have hownA : (w5.alloc (.cells #[.int .i64 x0, .int .i64 x1] 70)).ownsRow w4.heap.size 70 2 (.slice A' n' c') acc.length (itemVs acc) := hown5.alloc _
                  have hcA : ∀ (j : Nat) (u : Value), [Value.int .i64 x0, .int .i64 x1][j]? = some u → ((w5.alloc (.cells #[.int .i64 x0, .int .i64 x1] 70)).alloc (.cells #[.int .i64 x0, .int .i64 x1] 70)).cell? ((⟨w5.heap.size + 1, 0, none⟩ : Addr).add j) = some u := by
                    have := cell_two_at (w5.alloc (.cells #[.int .i64 x0, .int .i64 x1] 70)) (.int .i64 x0) (.int .i64 x1) 70
                    rw [World.size_alloc] at this
                    exact this
                  have Hb4 := Lib.hid (show w4.heap.size ≤ (w5.alloc (.cells #[.int .i64 x0, .int .i64 x1] 70)).heap.size by simp; omega)
                  clear hit2 hio h10
                  go_wp2_with (at_builtin; refine wpList_append_at _ rfl _ _ 22 rfl w4.heap.size 70 i0 (.agg #[.int .i64 0, .int .i64 0]) 2 16 Tryz.underlying22 hi0 hz0 hz1 hz2 rfl (by decide) (.slice A' n' c') acc.length (itemVs acc) rfl (hownA.alloc _) ⟨w5.heap.size + 1, 0, none⟩ 1 1 [.int .i64 x0, .int .i64 x1] rfl rfl hcA (by simp [Value.oneCell']) (by simp only [maxLen]; omega) (by omega) (by simp; omega) ?_; intro v' w8 hown8 hgrow hat; obtain ⟨g8, cap8, rfl⟩ := ownsRow_succ hown8; have hfa := field_appended2 (n₀ := w.heap.size) (j := 1) u1 (by decide) hownA Hb4.out hs4 (Nat.le_succ _) hown8 hgrow; obtain ⟨f1, f2, f3, f4, f5⟩ := hfa; have c1 := cell_blk f1 1; have c2 := frozen_blk f1 1)
                  go_roundw
                  case rel =>
                    refine ⟨k + 1, _, acc ++ [(x0, x1)], by omega, by go_num, hbA.trans f4, ?_, ?_, f2, ?_, ?_, by simp; omega, Hit2.out⟩
                    · have := hown8.1; have := hgrow.size; simp at this ⊢; omega
                    · exact (f5 _ (by omega) (by omega)).trans u0
                    · refine ⟨hS5.len, fun h0 => ?_⟩
                      obtain ⟨vb, vo, hva, hvb, hvc⟩ := hS5.at_ h0
                      refine ⟨vb, vo, hva, hvb, fun j hj => ?_⟩
                      have hvz : vb = zb := by
                        have := hva; simp at this; exact this.1.symm
                      subst hvz
                      rw [World.cell?_of_block (a := ⟨vb, vo + j, none⟩) (f5 vb hvb hzne)]
                      exact (World.cell?_alloc_lt _ _ _ (by show vb < _; omega)).trans (hvc j hj)
                    · rw [itemVs_app, List.length_append]
                      exact f3
                  case measure => simp [RowKit.intOf]; omega
            · have hp : parsePB s ss = ((false, acc), 0) := by
                rw [Hpb2.out, Hit.out, List.drop_eq_nil_of_le (by have := hSr.len; omega), itemsB]
              have Hp := Lib.hid hp
              clear hp
              have k00 := cell_blk q0 0
              have k01 := cell_blk q0 1
              have k02 := frozen_blk q0 0
              have k03 := frozen_blk q0 1
              have k10 := cell_blk q1 0
              have k11 := cell_blk q1 1
              simp only [List.getElem?_toArray, List.getElem?_cons_zero, List.getElem?_cons_succ] at k00 k01 k10 k11
              go_wp2
              subst hQl
              rw [landed_ret]
              obtain ⟨z0, z1⟩ := set2_cells q0 (.bool false) (.slice A' n' c')
              have hs9 : Below w.heap.size w ((wr.setCell ⟨w.heap.size, 0, none⟩ (.bool false)).setCell ⟨w.heap.size, 1, none⟩ (.slice A' n' c')) := (hbr.setCell (p := ⟨w.heap.size, 0, none⟩) (Nat.le_refl _) _).setCell (p := ⟨w.heap.size, 1, none⟩) (Nat.le_refl _) _
              have hown9 : ((wr.setCell ⟨w.heap.size, 0, none⟩ (.bool false)).setCell ⟨w.heap.size, 1, none⟩ (.slice A' n' c')).ownsRow w4.heap.size 70 2 (.slice A' n' c') acc.length (itemVs acc) := by
                have h1 := hown.kept (grownBy_setCell2 wr w.heap.size 0 (.bool false)) (.inr (blk_not_row q0 (by decide) hown).symm)
                have h2 := setCell_blk q0 0 (.bool false)
                exact h1.kept (grownBy_setCell2 _ w.heap.size 1 (.slice A' n' c')) (.inr (blk_not_row h2 (by decide) h1).symm)
              obtain ⟨A9, n9, c9, he9, _, hP9⟩ := prs_own hown9
              injection he9 with e1 e2 e3
              subst e1 e2 e3
              refine bodyPost_ret (v := .tuple #[.agg #[.bool false, .slice A' n' c'], .int .i64 0]) (by simp [results, Tryz.results19, go_sem, z0, z1]) rfl ⟨by rw [Hp.out]; exact ⟨_, _, _, rfl, hP9, hn'10⟩, hs9⟩
      · rw [hbad] at hcf
        have hp : parsePB s ss = ((false, []), 80) := by simp [parsePB, hN, hsne, hbad]
        have Hp := Lib.hid hp
        clear hp hbad k00 k01 k10 k11 k02 k03 k12 k13 r0 r1
        go_wp2_with fail
        refine hcf.mono ?_
        rintro e w4 ⟨rfl, hb6⟩
        obtain ⟨hb7, r0, r1, hS4⟩ := Hfacts.out w4 hb6
        obtain ⟨pp, hgp⟩ := (hG.below hb7).pat
        have k00 := cell_blk r0 0
        have k01 := cell_blk r0 1
        have k02 := frozen_blk r0 0
        have k03 := frozen_blk r0 1
        simp only [List.getElem?_toArray, List.getElem?_cons_zero, List.getElem?_cons_succ] at k00 k01
        go_wp2
        go_step3
        go_simp
        subst hQl
        refine landed_goto (by rfl) ?_
        go_wp2_with (go_at_call 52; refine (pattern_told pp _ hgp).mono ?_; rintro e w' ⟨rfl, rfl⟩)
        try rw [Exit.noGoto_ret]
        obtain ⟨z0, z1⟩ := set2_cells r0 (.bool false) (.slice none 0 0)
        refine bodyPost_ret (v := .tuple #[.agg #[.bool false, .slice none 0 0], .int .i64 80]) (by simp [results, Tryz.results19, go_sem, z0, z1]) rfl ⟨by rw [Hp.out]; exact ⟨_, _, _, rfl, Prs.nil _ _ _, by omega⟩, (hb7.setCell (p := ⟨w.heap.size, 0, none⟩) (Nat.le_refl _) _).setCell (p := ⟨w.heap.size, 1, none⟩) (Nat.le_refl _) _⟩
end Go.Vir
