/- Joined texts: Rgc. -/
import Derived.Test.YthkgnhfhjhcecaaGreatDoorBn
import Derived.Test.YthkgnhfhjhcecaaGreatDoorBi
/- The reference's rules: viramaref11.one. -/
namespace Go.Vir
open Go Go.RowKit Go.Proofs Go.Shelf
attribute [local go_sem] Oper.semAt_some

/-- How the reference's reading of a rule ends. -/
def OneEnd (B0 : Nat) (o : Option RuleV) (e : Ending) (w' : World) : Prop := ∃ (x : RuleV) (Al : Option Addr) (ml cl : Nat) (Ar : Option Addr) (mr cr : Nat), e = .returned (.tuple #[ruleV x Al ml cl Ar mr cr, .bool o.isSome]) ∧
  ∀ y, o = some y → x = y ∧ RuleM w' w'.heap.size x Al ml cl Ar mr cr ∧ Fresh B0 Al ml ∧ Fresh B0 Ar mr
theorem noMark_next {s : List UInt8} {k : Nat} (hk : k < s.length) (h : noMark (s.take k)) (h1 : s[k] ≠ 43) (h2 : s[k] ≠ 47) : noMark (s.take (k + 1)) := by
  rw [List.take_succ_eq_append_getElem hk]
  intro b hb
  rcases List.mem_append.1 hb with h3 | h3
  · exact h b h3
  · simp at h3; subst h3; exact ⟨h1, h2⟩

set_option maxRecDepth 100000 in
set_option maxHeartbeats 4000000 in
theorem ref_one (s : List UInt8) (A : Option Addr) (n c : Nat) (ss : List (List UInt8)) (w : World) (hn : n ≤ 1000000) (hnc : n ≤ c) (hz : Strs w w.heap.size A n ss) (hs : ∀ x ∈ ss, x.length ≤ 1000) (hl : s.length ≤ 1000000) :
    Calls Tryz.prog 76 #[.string ⟨s.toArray⟩, .slice A n c] w fun e w' => OneEnd w.heap.size (ruleP s ss) e w' ∧ Below w.heap.size w w' := by
  have hpa := fun (t : List UInt8) (ht : t.length ≤ 1000000) W (hW : Below w.heap.size w W) => ref_Parse9 t A n c ss W hn hnc ((hz.below hW).more hW.size) hs ht
  have Hpa := Lib.hid hpa
  clear hpa hz hs
  obtain ⟨R, hRe⟩ : ∃ R, ruleP s ss = R := ⟨_, rfl⟩
  rw [hRe]
  have HRe := Lib.hid hRe
  clear hRe
  go_enter Tryz.func76, Tryz.ntmps76
  go_wp2_with fail
  go_loop [6] (fun i => ∃ pos : Nat, pos ≤ s.length ∧ i = .int .i64 (pos : Int) ∧ noMark (s.take pos)) (fun i => s.length - (RowKit.intOf i).toNat)
  case atStart => exact ⟨0, Nat.zero_le _, rfl, by simp [noMark]⟩
  case round =>
    obtain ⟨pos, hpos, rfl, hno⟩ := hrel
    have hb0 : Below w.heap.size w (w.alloc (.cells zeroR 99)) := by go_grown
    have z0 : (w.alloc (.cells zeroR 99)).heap[w.heap.size]? = some (.cells zeroR 99 (0, 0)) := heap_new rfl
    rcases Nat.lt_or_ge pos s.length with hlt | hge
    · have hx0 : (((⟨s.toArray⟩ : ByteArray)[pos]'hlt).toNat : Int) = (s[pos].toNat : Int) := rfl
      by_cases hm : s[pos] = 43 ∨ s[pos] = 47
      · have hmi := markI_at hno hlt hm
        have hrp : R = if (parsePB (trimL (s.take pos)) ss).2 = 0 ∧ (parsePB (trimL (s.drop (pos + 1))) ss).2 = 0 ∧ (parsePB (trimL (s.drop (pos + 1))) ss).1.1 = false then
            some { sl := (parsePB (trimL (s.take pos)) ss).1.1, xl := (parsePB (trimL (s.take pos)) ss).1.2, sr := (parsePB (trimL (s.drop (pos + 1))) ss).1.1, xr := (parsePB (trimL (s.drop (pos + 1))) ss).1.2, br := s[pos] == 47 } else none := by
          rw [← HRe.out]; unfold ruleP; rw [hmi]
        have ht9 : ∀ W, Calls Tryz.prog 75 #[.string ((⟨s.toArray⟩ : ByteArray).extract 0 pos)] W fun e w' => e = .returned (.string ⟨(trimL (s.take pos)).toArray⟩) ∧ W = w' := fun W => by rw [text_cut]; exact ref_Trim (s.take pos) W (by simp; omega)
        have ht10 : ∀ W, Calls Tryz.prog 75 #[.string ((⟨s.toArray⟩ : ByteArray).extract (pos + 1) s.length)] W fun e w' => e = .returned (.string ⟨(trimL (s.drop (pos + 1))).toArray⟩) ∧ W = w' := fun W => by rw [text_drop]; exact ref_Trim (s.drop (pos + 1)) W (by simp; omega)
        have hp9 := Hpa.out (trimL (s.take pos)) (by have := trimL_len (s.take pos); simp at this; omega)
        have hp10 := Hpa.out (trimL (s.drop (pos + 1))) (by have := trimL_len (s.drop (pos + 1)); simp at this; omega)
        generalize parsePB (trimL (s.take pos)) ss = p9 at hrp hp9
        generalize parsePB (trimL (s.drop (pos + 1))) ss = p10 at hrp hp10
        obtain ⟨⟨st1, xl⟩, e1⟩ := p9
        obtain ⟨⟨st2, xr⟩, e2⟩ := p10
        simp only [PatEndF] at hrp hp9 hp10
        have Hrp := Lib.hid hrp
        have Ht9 := Lib.hid ht9
        have Ht10 := Lib.hid ht10
        have Hp9 := Lib.hid hp9
        have Hp10 := Lib.hid hp10
        have hpw : (pos : Int) + 1 ≤ (s.length : Int) := by omega
        obtain ⟨br, hbr⟩ : ∃ br, (s[pos] == 47) = br := ⟨_, rfl⟩
        rw [hbr] at Hrp
        have hbrq : ((s[pos].toNat : Int) == 47) = br := by rw [← hbr]; exact byte_beq s[pos] 47
        have hcond : (((s[pos].toNat : Int) != 43) = false) ∨ (((s[pos].toNat : Int) != 43) = true ∧ ((s[pos].toNat : Int) != 47) = false) := by
          rcases hm with h | h
          · left; rw [h]; rfl
          · right; rw [h]; exact ⟨rfl, rfl⟩
        clear hrp ht9 ht10 hp9 hp10 hmi hm hno hbr HRe Hpa
        rcases hcond with hc1 | ⟨hc1, hc2⟩
        · go_wp2_with fail
          refine (Ht9.out _).mono ?_
          rintro e w4 ⟨rfl, rfl⟩
          go_wp2_with fail
          refine (Hp9.out _ hb0).mono ?_
          rintro e w5 ⟨⟨Al, ml, cl, rfl, hPl, hml, hfl⟩, hb5⟩
          have z5 := (hb5.block _ (Array.getElem?_eq_some_iff.1 z0).1).trans z0
          have hb6 : Below w.heap.size w w5 := hb0.trans (hb5.mono hb0.size)
          have hfl2 : Fresh (w.heap.size + 1) Al ml := fun h => by
            obtain ⟨b, o, e, hb⟩ := hfl h
            exact ⟨b, o, e, by simpa using hb⟩
          have d5 : (w5.alloc (.cells #[.bool st1, .slice Al ml cl] 96)).heap[w5.heap.size]? = some (.cells #[.bool st1, .slice Al ml cl] 96 (0, 0)) := heap_new rfl
          have z6 : (w5.alloc (.cells #[.bool st1, .slice Al ml cl] 96)).heap[w.heap.size]? = some (.cells zeroR 99 (0, 0)) := (heap_old (Array.getElem?_eq_some_iff.1 z5).1).trans z5
          have hb7 : Below w.heap.size w (w5.alloc (.cells #[.bool st1, .slice Al ml cl] 96)) := hb6.alloc hb6.size _
          have hP7 := (hPl.below ((Below.refl _ w5).alloc (Nat.le_refl _) (.cells #[.bool st1, .slice Al ml cl] 96))).more (show w5.heap.size ≤ (w5.alloc (.cells #[.bool st1, .slice Al ml cl] 96)).heap.size by simp)
          have hs5 : w.heap.size < w5.heap.size := (Array.getElem?_eq_some_iff.1 z5).1
          clear Ht9 Hp9 hPl hfl z0 z5 hb0 hb5 hb6
          go_wp2_with fail
          refine (Ht10.out _).mono ?_
          rintro e w6 ⟨rfl, rfl⟩
          go_wp2_with fail
          refine (Hp10.out _ hb7).mono ?_
          rintro e w7 ⟨⟨Ar, mr, cr, rfl, hPr, hmr, hfr⟩, hb8⟩
          have z7 := (hb8.block _ (Array.getElem?_eq_some_iff.1 z6).1).trans z6
          have d7 := (hb8.block _ (Array.getElem?_eq_some_iff.1 d5).1).trans d5
          have hb9 : Below w.heap.size w w7 := hb7.trans (hb8.mono hb7.size)
          have hfr2 : Fresh (w.heap.size + 1) Ar mr := fun h => by
            obtain ⟨b, o, e, hb⟩ := hfr h
            exact ⟨b, o, e, by simp at hb; omega⟩
          have d8 : (w7.alloc (.cells #[.bool st2, .slice Ar mr cr] 96)).heap[w7.heap.size]? = some (.cells #[.bool st2, .slice Ar mr cr] 96 (0, 0)) := heap_new rfl
          have d9 : (w7.alloc (.cells #[.bool st2, .slice Ar mr cr] 96)).heap[w5.heap.size]? = some (.cells #[.bool st1, .slice Al ml cl] 96 (0, 0)) := (heap_old (Array.getElem?_eq_some_iff.1 d7).1).trans d7
          have z8 : (w7.alloc (.cells #[.bool st2, .slice Ar mr cr] 96)).heap[w.heap.size]? = some (.cells zeroR 99 (0, 0)) := (heap_old (Array.getElem?_eq_some_iff.1 z7).1).trans z7
          have hbA : Below w.heap.size w (w7.alloc (.cells #[.bool st2, .slice Ar mr cr] 96)) := hb9.alloc hb9.size _
          have hal : Below w7.heap.size w7 (w7.alloc (.cells #[.bool st2, .slice Ar mr cr] 96)) := (Below.refl _ w7).alloc (Nat.le_refl _) _
          have hPA := (((hP7.below hb8).more hb8.size).below hal).more hal.size
          have hPB := (hPr.below hal).more hal.size
          have hb2l : w.heap.size < w7.heap.size := (Array.getElem?_eq_some_iff.1 z7).1
          clear Ht10 Hp10 hP7 hPr hfr z6 z7 d5 d7 hb7 hb8 hb9 hal
          go_wp2_with fail
          generalize (w7.alloc (.cells #[.bool st2, .slice Ar mr cr] 96)) = W at *
          generalize w7.heap.size = b2 at *
          generalize w5.heap.size = b1 at *
          have l0 := cell_blk d9 0
          have l1 := cell_blk d9 1
          have m0 := cell_blk d8 0
          have m1 := cell_blk d8 1
          simp only [List.getElem?_toArray, List.getElem?_cons_zero, List.getElem?_cons_succ] at l0 l1 m0 m1
          have z8d : W.drew.heap[w.heap.size]? = some (.cells zeroR 99 (0, 0)) := z8
          have hb1n : b1 ≠ w.heap.size := by omega
          have hb2n : b2 ≠ w.heap.size := by omega
          have f0 := frozen_blk z8 0
          have f1 := frozen_blk z8 1
          have f2 := frozen_blk z8 2
          have f3 := frozen_blk z8 3
          have f4 := frozen_blk z8 4
          have g0 := cell_blk z8 0
          have g1 := cell_blk z8 1
          have g2 := cell_blk z8 2
          have g3 := cell_blk z8 3
          have g4 := cell_blk z8 4
          simp only [zeroR, List.getElem?_toArray, List.getElem?_cons_zero, List.getElem?_cons_succ] at g0 g1 g2 g3 g4
          by_cases hg1 : e1 = 0
          · by_cases hg2 : e2 = 0
            · subst hg1 hg2
              rcases st2 with _ | _
              · have hR : R = some { sl := st1, xl := xl, sr := false, xr := xr, br := br } := by rw [Hrp.out, if_pos ⟨rfl, rfl, rfl⟩]
                have HR := Lib.hid hR
                clear hR Hrp
                refine wp_region_noPanic ?_
                refine wp_region_held_drew (S := (fun V => V.cell? ⟨b1, 0, none⟩ = some (.bool st1) ∧ V.cell? ⟨b1, 1, none⟩ = some (.slice Al ml cl) ∧ V.cell? ⟨b2, 0, none⟩ = some (.bool false) ∧ V.cell? ⟨b2, 1, none⟩ = some (.slice Ar mr cr))) (by kernel_rfl) ⟨l0, l1, m0, m1⟩ (fun hHeld => ?_)
                refine wpAnyH_take (i := 0) (v := .agg #[.bool st1, .slice Al ml cl]) rfl (by kernel_rfl) (by kernel_rfl) (by kernel_rfl) (fun _ _ _ h => h) (.inl ⟨by rfl, fun V hV => by obtain ⟨c0, c1, c2, c3⟩ := hV; go_simp⟩) hHeld ?_
                try simp only [Act.put, List.getElem_toArray, List.getElem_cons_zero, List.setIfInBounds_toArray, List.set_cons_zero, List.set_cons_succ]
                refine wpAnyH_take (i := 1) (v := .agg #[.bool false, .slice Ar mr cr]) rfl (by kernel_rfl) (by kernel_rfl) (by kernel_rfl) (fun _ _ _ h => h) (.inl ⟨by rfl, fun V hV => by obtain ⟨c0, c1, c2, c3⟩ := hV; go_simp⟩) hHeld ?_
                try simp only [Act.put, List.getElem_toArray, List.getElem_cons_zero, List.getElem_cons_succ, List.setIfInBounds_toArray, List.set_cons_zero, List.set_cons_succ]
                refine wpAnyH_take (i := 2) (v := .string ⟨s.toArray⟩) rfl (by kernel_rfl) (by kernel_rfl) (by kernel_rfl) (fun _ _ _ h => h) (.inl ⟨by rfl, fun V hV => by obtain ⟨c0, c1, c2, c3⟩ := hV; go_simp⟩) hHeld ?_
                try simp only [Act.put, List.getElem_toArray, List.getElem_cons_zero, List.getElem_cons_succ, List.setIfInBounds_toArray, List.set_cons_zero, List.set_cons_succ]
                refine wpAnyH_take (i := 3) (v := .int .i64 (pos : Int)) rfl (by kernel_rfl) (by kernel_rfl) (by kernel_rfl) (fun _ _ _ h => h) (.inl ⟨by rfl, fun V hV => by obtain ⟨c0, c1, c2, c3⟩ := hV; go_simp⟩) hHeld ?_
                try simp only [Act.put, List.getElem_toArray, List.getElem_cons_zero, List.getElem_cons_succ, List.setIfInBounds_toArray, List.set_cons_zero, List.set_cons_succ]
                refine wpAnyH_take (i := 4) (v := .int .u8 (s[pos].toNat : Int)) rfl (by kernel_rfl) (by kernel_rfl) (by kernel_rfl) (fun _ _ _ h => h) (.inl ⟨by rfl, fun V hV => by obtain ⟨c0, c1, c2, c3⟩ := hV; go_simp⟩) hHeld ?_
                try simp only [Act.put, List.getElem_toArray, List.getElem_cons_zero, List.getElem_cons_succ, List.setIfInBounds_toArray, List.set_cons_zero, List.set_cons_succ]
                refine wpAnyH_take (i := 5) (v := .bool br) rfl (by kernel_rfl) (by kernel_rfl) (by kernel_rfl) (fun _ _ _ h => h) (.inl ⟨by rfl, fun V hV => by obtain ⟨c0, c1, c2, c3⟩ := hV; go_simp⟩) hHeld ?_
                try simp only [Act.put, List.getElem_toArray, List.getElem_cons_zero, List.getElem_cons_succ, List.setIfInBounds_toArray, List.set_cons_zero, List.set_cons_succ]
                refine wpAnyH_take (i := 6) (v := .agg #[.bool st1, .slice Al ml cl, .bool false, .slice Ar mr cr, .bool br]) rfl (by kernel_rfl) (by kernel_rfl) (by kernel_rfl) (fun _ _ _ h => h) (.inl ⟨by rfl, fun V hV => by obtain ⟨c0, c1, c2, c3⟩ := hV; go_simp⟩) hHeld ?_
                try simp only [Act.put, List.getElem_toArray, List.getElem_cons_zero, List.getElem_cons_succ, List.setIfInBounds_toArray, List.set_cons_zero, List.set_cons_succ]
                refine wpAnyH_take (i := 7) (v := .int .i64 0) rfl (by kernel_rfl) (by kernel_rfl) (by kernel_rfl) (fun _ _ _ h => h) (.inl ⟨by rfl, fun V hV => by obtain ⟨c0, c1, c2, c3⟩ := hV; go_simp⟩) hHeld ?_
                try simp only [Act.put, List.getElem_toArray, List.getElem_cons_zero, List.getElem_cons_succ, List.setIfInBounds_toArray, List.set_cons_zero, List.set_cons_succ]
                refine wpAnyH_take (i := 8) (v := .bool true) rfl (by kernel_rfl) (by kernel_rfl) (by kernel_rfl) (fun _ _ _ h => h) (.inl ⟨by rfl, fun V hV => by obtain ⟨c0, c1, c2, c3⟩ := hV; go_simp⟩) hHeld ?_
                try simp only [Act.put, List.getElem_toArray, List.getElem_cons_zero, List.getElem_cons_succ, List.setIfInBounds_toArray, List.set_cons_zero, List.set_cons_succ]
                refine wpAnyH_take (i := 9) (v := .bool true) rfl (by kernel_rfl) (by kernel_rfl) (by kernel_rfl) (fun _ _ _ h => h) (.inl ⟨by rfl, fun V hV => by obtain ⟨c0, c1, c2, c3⟩ := hV; go_simp⟩) hHeld ?_
                try simp only [Act.put, List.getElem_toArray, List.getElem_cons_zero, List.getElem_cons_succ, List.setIfInBounds_toArray, List.set_cons_zero, List.set_cons_succ]
                refine wpAnyH_take (i := 10) (v := .int .i64 0) rfl (by kernel_rfl) (by kernel_rfl) (by kernel_rfl) (fun _ _ _ h => h) (.inl ⟨by rfl, fun V hV => by obtain ⟨c0, c1, c2, c3⟩ := hV; go_simp⟩) hHeld ?_
                try simp only [Act.put, List.getElem_toArray, List.getElem_cons_zero, List.getElem_cons_succ, List.setIfInBounds_toArray, List.set_cons_zero, List.set_cons_succ]
                refine wpAnyH_take (i := 11) (v := .bool true) rfl (by kernel_rfl) (by kernel_rfl) (by kernel_rfl) (fun _ _ _ h => h) (.inl ⟨by rfl, fun V hV => by obtain ⟨c0, c1, c2, c3⟩ := hV; go_simp⟩) hHeld ?_
                try simp only [Act.put, List.getElem_toArray, List.getElem_cons_zero, List.getElem_cons_succ, List.setIfInBounds_toArray, List.set_cons_zero, List.set_cons_succ]
                refine wpAnyH_take (i := 12) (v := .bool true) rfl (by kernel_rfl) (by kernel_rfl) (by kernel_rfl) (fun _ _ _ h => h) (.inl ⟨by rfl, fun V hV => by obtain ⟨c0, c1, c2, c3⟩ := hV; go_simp⟩) hHeld ?_
                try simp only [Act.put, List.getElem_toArray, List.getElem_cons_zero, List.getElem_cons_succ, List.setIfInBounds_toArray, List.set_cons_zero, List.set_cons_succ]
                refine wpAnyH_take (i := 13) (v := .bool true) rfl (by kernel_rfl) (by kernel_rfl) (by kernel_rfl) (fun _ _ _ h => h) (.inl ⟨by rfl, fun V hV => by obtain ⟨c0, c1, c2, c3⟩ := hV; go_simp⟩) hHeld ?_
                try simp only [Act.put, List.getElem_toArray, List.getElem_cons_zero, List.getElem_cons_succ, List.setIfInBounds_toArray, List.set_cons_zero, List.set_cons_succ]
                refine wpAnyH_take (i := 14) (v := .pointer (some ⟨b2, 0, none⟩)) rfl (by kernel_rfl) (by kernel_rfl) (by kernel_rfl) (fun _ _ _ h => h) (.inl ⟨by rfl, fun V hV => by obtain ⟨c0, c1, c2, c3⟩ := hV; go_simp⟩) hHeld ?_
                try simp only [Act.put, List.getElem_toArray, List.getElem_cons_zero, List.getElem_cons_succ, List.setIfInBounds_toArray, List.set_cons_zero, List.set_cons_succ]
                refine wpAnyH_take (i := 15) (v := .bool false) rfl (by kernel_rfl) (by kernel_rfl) (by kernel_rfl) (fun _ _ _ h => h) (.inl ⟨by rfl, fun V hV => by obtain ⟨c0, c1, c2, c3⟩ := hV; go_simp⟩) hHeld ?_
                try simp only [Act.put, List.getElem_toArray, List.getElem_cons_zero, List.getElem_cons_succ, List.setIfInBounds_toArray, List.set_cons_zero, List.set_cons_succ]
                refine wpAnyH_take (i := 16) (v := .bool true) rfl (by kernel_rfl) (by kernel_rfl) (by kernel_rfl) (fun _ _ _ h => h) (.inl ⟨by rfl, fun V hV => by obtain ⟨c0, c1, c2, c3⟩ := hV; go_simp⟩) hHeld ?_
                try simp only [Act.put, List.getElem_toArray, List.getElem_cons_zero, List.getElem_cons_succ, List.setIfInBounds_toArray, List.set_cons_zero, List.set_cons_succ]
                refine wpAnyH_take (i := 17) (v := .bool true) rfl (by kernel_rfl) (by kernel_rfl) (by kernel_rfl) (fun _ _ _ h => h) (.inl ⟨by rfl, fun V hV => by obtain ⟨c0, c1, c2, c3⟩ := hV; go_simp⟩) hHeld ?_
                try simp only [Act.put, List.getElem_toArray, List.getElem_cons_zero, List.getElem_cons_succ, List.setIfInBounds_toArray, List.set_cons_zero, List.set_cons_succ]
                refine wpAnyH_ready (rs := [18]) (by kernel_rfl) (by simp) ?_
                refine AllReadyH.cons rfl (fun K hK => ?_) AllReadyH.nil
                go_simp
                have hs0 : (((((W.setCell ⟨w.heap.size, 0, none⟩ (.bool st1)).setCell ⟨w.heap.size, 1, none⟩ (.slice Al ml cl)).setCell ⟨w.heap.size, 2, none⟩ (.bool false)).setCell ⟨w.heap.size, 3, none⟩ (.slice Ar mr cr)).setCell ⟨w.heap.size, 4, none⟩ (.bool br)).drew.cell? ⟨b1, 0, none⟩ = some (.bool st1) := (cell_drew _ _).trans ((World.cell?_of_block (a := ⟨b1, 0, none⟩) (heap_set5 hb1n _ _ _ _ _)).trans l0)
                have hs1 : (((((W.setCell ⟨w.heap.size, 0, none⟩ (.bool st1)).setCell ⟨w.heap.size, 1, none⟩ (.slice Al ml cl)).setCell ⟨w.heap.size, 2, none⟩ (.bool false)).setCell ⟨w.heap.size, 3, none⟩ (.slice Ar mr cr)).setCell ⟨w.heap.size, 4, none⟩ (.bool br)).drew.cell? ⟨b1, 1, none⟩ = some (.slice Al ml cl) := (cell_drew _ _).trans ((World.cell?_of_block (a := ⟨b1, 1, none⟩) (heap_set5 hb1n _ _ _ _ _)).trans l1)
                have hs2 : (((((W.setCell ⟨w.heap.size, 0, none⟩ (.bool st1)).setCell ⟨w.heap.size, 1, none⟩ (.slice Al ml cl)).setCell ⟨w.heap.size, 2, none⟩ (.bool false)).setCell ⟨w.heap.size, 3, none⟩ (.slice Ar mr cr)).setCell ⟨w.heap.size, 4, none⟩ (.bool br)).drew.cell? ⟨b2, 0, none⟩ = some (.bool false) := (cell_drew _ _).trans ((World.cell?_of_block (a := ⟨b2, 0, none⟩) (heap_set5 hb2n _ _ _ _ _)).trans m0)
                have hs3 : (((((W.setCell ⟨w.heap.size, 0, none⟩ (.bool st1)).setCell ⟨w.heap.size, 1, none⟩ (.slice Al ml cl)).setCell ⟨w.heap.size, 2, none⟩ (.bool false)).setCell ⟨w.heap.size, 3, none⟩ (.slice Ar mr cr)).setCell ⟨w.heap.size, 4, none⟩ (.bool br)).drew.cell? ⟨b2, 1, none⟩ = some (.slice Ar mr cr) := (cell_drew _ _).trans ((World.cell?_of_block (a := ⟨b2, 1, none⟩) (heap_set5 hb2n _ _ _ _ _)).trans m1)
                refine hK.out _ _ ⟨hs0, hs1, hs2, hs3⟩ (fun hHeld => ?_)
                clear hK K
                try simp only [Act.put, List.getElem_toArray, List.getElem_cons_zero, List.getElem_cons_succ, List.setIfInBounds_toArray, List.set_cons_zero, List.set_cons_succ]
                refine wpAnyH_take (i := 19) (v := .bool true) rfl (by kernel_rfl) (by kernel_rfl) (by kernel_rfl) (fun _ _ _ h => h) (.inl ⟨by rfl, fun V hV => by obtain ⟨c0, c1, c2, c3⟩ := hV; go_simp⟩) hHeld ?_
                try simp only [Act.put, List.getElem_toArray, List.getElem_cons_zero, List.getElem_cons_succ, List.setIfInBounds_toArray, List.set_cons_zero, List.set_cons_succ]
                refine wpAnyH_done (by kernel_rfl) ?_ _
                refine NoPanic.normal ?_
                go_wp2_with fail
                obtain ⟨q0, q1, q2, q3, q4⟩ := set5_cells z8 (.bool st1) (.slice Al ml cl) (.bool false) (.slice Ar mr cr) (.bool br)
                refine bodyPost_ret (v := .tuple #[.agg #[.bool st1, .slice Al ml cl, .bool false, .slice Ar mr cr, .bool br], .bool true]) (by simp [results, Tryz.results76, go_sem, q0, q1, q2, q3, q4]) rfl ⟨?_, (below_set5 hbA (Nat.le_refl _) _ _ _ _ _).drew⟩
                rw [HR.out]
                refine ⟨{ sl := st1, xl := xl, sr := false, xr := xr, br := br }, Al, ml, cl, Ar, mr, cr, rfl, fun y hy => ?_⟩
                cases hy
                refine ⟨rfl, ⟨?_, ?_, by omega, by omega⟩, hfl2.less (Nat.le_succ _), hfr2.less (Nat.le_succ _)⟩
                · exact hPA.keep hfl2 (fun k h1 _ => heap_set5 (w := W) (g := w.heap.size) (show k ≠ w.heap.size by omega) _ _ _ _ _) (by simp)
                · exact hPB.keep hfr2 (fun k h1 _ => heap_set5 (w := W) (g := w.heap.size) (show k ≠ w.heap.size by omega) _ _ _ _ _) (by simp)
              · have hR : R = none := by rw [Hrp.out, if_neg (fun h => by have := h.2.2; cases this)]
                have HR := Lib.hid hR
                clear hR Hrp
                refine wp_region_noPanic ?_
                refine wp_region_held_drew (S := (fun V => V.cell? ⟨b1, 0, none⟩ = some (.bool st1) ∧ V.cell? ⟨b1, 1, none⟩ = some (.slice Al ml cl) ∧ V.cell? ⟨b2, 0, none⟩ = some (.bool true) ∧ V.cell? ⟨b2, 1, none⟩ = some (.slice Ar mr cr))) (by kernel_rfl) ⟨l0, l1, m0, m1⟩ (fun hHeld => ?_)
                refine wpAnyH_take (i := 0) (v := .agg #[.bool st1, .slice Al ml cl]) rfl (by kernel_rfl) (by kernel_rfl) (by kernel_rfl) (fun _ _ _ h => h) (.inl ⟨by rfl, fun V hV => by obtain ⟨c0, c1, c2, c3⟩ := hV; go_simp⟩) hHeld ?_
                try simp only [Act.put, List.getElem_toArray, List.getElem_cons_zero, List.setIfInBounds_toArray, List.set_cons_zero, List.set_cons_succ]
                refine wpAnyH_take (i := 1) (v := .agg #[.bool true, .slice Ar mr cr]) rfl (by kernel_rfl) (by kernel_rfl) (by kernel_rfl) (fun _ _ _ h => h) (.inl ⟨by rfl, fun V hV => by obtain ⟨c0, c1, c2, c3⟩ := hV; go_simp⟩) hHeld ?_
                try simp only [Act.put, List.getElem_toArray, List.getElem_cons_zero, List.getElem_cons_succ, List.setIfInBounds_toArray, List.set_cons_zero, List.set_cons_succ]
                refine wpAnyH_take (i := 2) (v := .string ⟨s.toArray⟩) rfl (by kernel_rfl) (by kernel_rfl) (by kernel_rfl) (fun _ _ _ h => h) (.inl ⟨by rfl, fun V hV => by obtain ⟨c0, c1, c2, c3⟩ := hV; go_simp⟩) hHeld ?_
                try simp only [Act.put, List.getElem_toArray, List.getElem_cons_zero, List.getElem_cons_succ, List.setIfInBounds_toArray, List.set_cons_zero, List.set_cons_succ]
                refine wpAnyH_take (i := 3) (v := .int .i64 (pos : Int)) rfl (by kernel_rfl) (by kernel_rfl) (by kernel_rfl) (fun _ _ _ h => h) (.inl ⟨by rfl, fun V hV => by obtain ⟨c0, c1, c2, c3⟩ := hV; go_simp⟩) hHeld ?_
                try simp only [Act.put, List.getElem_toArray, List.getElem_cons_zero, List.getElem_cons_succ, List.setIfInBounds_toArray, List.set_cons_zero, List.set_cons_succ]
                refine wpAnyH_take (i := 4) (v := .int .u8 (s[pos].toNat : Int)) rfl (by kernel_rfl) (by kernel_rfl) (by kernel_rfl) (fun _ _ _ h => h) (.inl ⟨by rfl, fun V hV => by obtain ⟨c0, c1, c2, c3⟩ := hV; go_simp⟩) hHeld ?_
                try simp only [Act.put, List.getElem_toArray, List.getElem_cons_zero, List.getElem_cons_succ, List.setIfInBounds_toArray, List.set_cons_zero, List.set_cons_succ]
                refine wpAnyH_take (i := 5) (v := .bool br) rfl (by kernel_rfl) (by kernel_rfl) (by kernel_rfl) (fun _ _ _ h => h) (.inl ⟨by rfl, fun V hV => by obtain ⟨c0, c1, c2, c3⟩ := hV; go_simp⟩) hHeld ?_
                try simp only [Act.put, List.getElem_toArray, List.getElem_cons_zero, List.getElem_cons_succ, List.setIfInBounds_toArray, List.set_cons_zero, List.set_cons_succ]
                refine wpAnyH_take (i := 6) (v := .agg #[.bool st1, .slice Al ml cl, .bool true, .slice Ar mr cr, .bool br]) rfl (by kernel_rfl) (by kernel_rfl) (by kernel_rfl) (fun _ _ _ h => h) (.inl ⟨by rfl, fun V hV => by obtain ⟨c0, c1, c2, c3⟩ := hV; go_simp⟩) hHeld ?_
                try simp only [Act.put, List.getElem_toArray, List.getElem_cons_zero, List.getElem_cons_succ, List.setIfInBounds_toArray, List.set_cons_zero, List.set_cons_succ]
                refine wpAnyH_take (i := 7) (v := .int .i64 0) rfl (by kernel_rfl) (by kernel_rfl) (by kernel_rfl) (fun _ _ _ h => h) (.inl ⟨by rfl, fun V hV => by obtain ⟨c0, c1, c2, c3⟩ := hV; go_simp⟩) hHeld ?_
                try simp only [Act.put, List.getElem_toArray, List.getElem_cons_zero, List.getElem_cons_succ, List.setIfInBounds_toArray, List.set_cons_zero, List.set_cons_succ]
                refine wpAnyH_take (i := 8) (v := .bool true) rfl (by kernel_rfl) (by kernel_rfl) (by kernel_rfl) (fun _ _ _ h => h) (.inl ⟨by rfl, fun V hV => by obtain ⟨c0, c1, c2, c3⟩ := hV; go_simp⟩) hHeld ?_
                try simp only [Act.put, List.getElem_toArray, List.getElem_cons_zero, List.getElem_cons_succ, List.setIfInBounds_toArray, List.set_cons_zero, List.set_cons_succ]
                refine wpAnyH_take (i := 9) (v := .bool true) rfl (by kernel_rfl) (by kernel_rfl) (by kernel_rfl) (fun _ _ _ h => h) (.inl ⟨by rfl, fun V hV => by obtain ⟨c0, c1, c2, c3⟩ := hV; go_simp⟩) hHeld ?_
                try simp only [Act.put, List.getElem_toArray, List.getElem_cons_zero, List.getElem_cons_succ, List.setIfInBounds_toArray, List.set_cons_zero, List.set_cons_succ]
                refine wpAnyH_take (i := 10) (v := .int .i64 0) rfl (by kernel_rfl) (by kernel_rfl) (by kernel_rfl) (fun _ _ _ h => h) (.inl ⟨by rfl, fun V hV => by obtain ⟨c0, c1, c2, c3⟩ := hV; go_simp⟩) hHeld ?_
                try simp only [Act.put, List.getElem_toArray, List.getElem_cons_zero, List.getElem_cons_succ, List.setIfInBounds_toArray, List.set_cons_zero, List.set_cons_succ]
                refine wpAnyH_take (i := 11) (v := .bool true) rfl (by kernel_rfl) (by kernel_rfl) (by kernel_rfl) (fun _ _ _ h => h) (.inl ⟨by rfl, fun V hV => by obtain ⟨c0, c1, c2, c3⟩ := hV; go_simp⟩) hHeld ?_
                try simp only [Act.put, List.getElem_toArray, List.getElem_cons_zero, List.getElem_cons_succ, List.setIfInBounds_toArray, List.set_cons_zero, List.set_cons_succ]
                refine wpAnyH_take (i := 12) (v := .bool true) rfl (by kernel_rfl) (by kernel_rfl) (by kernel_rfl) (fun _ _ _ h => h) (.inl ⟨by rfl, fun V hV => by obtain ⟨c0, c1, c2, c3⟩ := hV; go_simp⟩) hHeld ?_
                try simp only [Act.put, List.getElem_toArray, List.getElem_cons_zero, List.getElem_cons_succ, List.setIfInBounds_toArray, List.set_cons_zero, List.set_cons_succ]
                refine wpAnyH_take (i := 13) (v := .bool true) rfl (by kernel_rfl) (by kernel_rfl) (by kernel_rfl) (fun _ _ _ h => h) (.inl ⟨by rfl, fun V hV => by obtain ⟨c0, c1, c2, c3⟩ := hV; go_simp⟩) hHeld ?_
                try simp only [Act.put, List.getElem_toArray, List.getElem_cons_zero, List.getElem_cons_succ, List.setIfInBounds_toArray, List.set_cons_zero, List.set_cons_succ]
                refine wpAnyH_take (i := 14) (v := .pointer (some ⟨b2, 0, none⟩)) rfl (by kernel_rfl) (by kernel_rfl) (by kernel_rfl) (fun _ _ _ h => h) (.inl ⟨by rfl, fun V hV => by obtain ⟨c0, c1, c2, c3⟩ := hV; go_simp⟩) hHeld ?_
                try simp only [Act.put, List.getElem_toArray, List.getElem_cons_zero, List.getElem_cons_succ, List.setIfInBounds_toArray, List.set_cons_zero, List.set_cons_succ]
                refine wpAnyH_take (i := 15) (v := .bool true) rfl (by kernel_rfl) (by kernel_rfl) (by kernel_rfl) (fun _ _ _ h => h) (.inl ⟨by rfl, fun V hV => by obtain ⟨c0, c1, c2, c3⟩ := hV; go_simp⟩) hHeld ?_
                try simp only [Act.put, List.getElem_toArray, List.getElem_cons_zero, List.getElem_cons_succ, List.setIfInBounds_toArray, List.set_cons_zero, List.set_cons_succ]
                refine wpAnyH_take (i := 16) (v := .bool false) rfl (by kernel_rfl) (by kernel_rfl) (by kernel_rfl) (fun _ _ _ h => h) (.inl ⟨by rfl, fun V hV => by obtain ⟨c0, c1, c2, c3⟩ := hV; go_simp⟩) hHeld ?_
                try simp only [Act.put, List.getElem_toArray, List.getElem_cons_zero, List.getElem_cons_succ, List.setIfInBounds_toArray, List.set_cons_zero, List.set_cons_succ]
                refine wpAnyH_take (i := 17) (v := .bool false) rfl (by kernel_rfl) (by kernel_rfl) (by kernel_rfl) (fun _ _ _ h => h) (.inl ⟨by rfl, fun V hV => by obtain ⟨c0, c1, c2, c3⟩ := hV; go_simp⟩) hHeld ?_
                try simp only [Act.put, List.getElem_toArray, List.getElem_cons_zero, List.getElem_cons_succ, List.setIfInBounds_toArray, List.set_cons_zero, List.set_cons_succ]
                refine wpAnyH_ready (rs := [18]) (by kernel_rfl) (by simp) ?_
                refine AllReadyH.cons rfl (fun K hK => ?_) AllReadyH.nil
                go_simp
                have hs0 : (((((W.setCell ⟨w.heap.size, 0, none⟩ (.bool st1)).setCell ⟨w.heap.size, 1, none⟩ (.slice Al ml cl)).setCell ⟨w.heap.size, 2, none⟩ (.bool true)).setCell ⟨w.heap.size, 3, none⟩ (.slice Ar mr cr)).setCell ⟨w.heap.size, 4, none⟩ (.bool br)).drew.cell? ⟨b1, 0, none⟩ = some (.bool st1) := (cell_drew _ _).trans ((World.cell?_of_block (a := ⟨b1, 0, none⟩) (heap_set5 hb1n _ _ _ _ _)).trans l0)
                have hs1 : (((((W.setCell ⟨w.heap.size, 0, none⟩ (.bool st1)).setCell ⟨w.heap.size, 1, none⟩ (.slice Al ml cl)).setCell ⟨w.heap.size, 2, none⟩ (.bool true)).setCell ⟨w.heap.size, 3, none⟩ (.slice Ar mr cr)).setCell ⟨w.heap.size, 4, none⟩ (.bool br)).drew.cell? ⟨b1, 1, none⟩ = some (.slice Al ml cl) := (cell_drew _ _).trans ((World.cell?_of_block (a := ⟨b1, 1, none⟩) (heap_set5 hb1n _ _ _ _ _)).trans l1)
                have hs2 : (((((W.setCell ⟨w.heap.size, 0, none⟩ (.bool st1)).setCell ⟨w.heap.size, 1, none⟩ (.slice Al ml cl)).setCell ⟨w.heap.size, 2, none⟩ (.bool true)).setCell ⟨w.heap.size, 3, none⟩ (.slice Ar mr cr)).setCell ⟨w.heap.size, 4, none⟩ (.bool br)).drew.cell? ⟨b2, 0, none⟩ = some (.bool true) := (cell_drew _ _).trans ((World.cell?_of_block (a := ⟨b2, 0, none⟩) (heap_set5 hb2n _ _ _ _ _)).trans m0)
                have hs3 : (((((W.setCell ⟨w.heap.size, 0, none⟩ (.bool st1)).setCell ⟨w.heap.size, 1, none⟩ (.slice Al ml cl)).setCell ⟨w.heap.size, 2, none⟩ (.bool true)).setCell ⟨w.heap.size, 3, none⟩ (.slice Ar mr cr)).setCell ⟨w.heap.size, 4, none⟩ (.bool br)).drew.cell? ⟨b2, 1, none⟩ = some (.slice Ar mr cr) := (cell_drew _ _).trans ((World.cell?_of_block (a := ⟨b2, 1, none⟩) (heap_set5 hb2n _ _ _ _ _)).trans m1)
                refine hK.out _ _ ⟨hs0, hs1, hs2, hs3⟩ (fun hHeld => ?_)
                clear hK K
                try simp only [Act.put, List.getElem_toArray, List.getElem_cons_zero, List.getElem_cons_succ, List.setIfInBounds_toArray, List.set_cons_zero, List.set_cons_succ]
                refine wpAnyH_take (i := 19) (v := .bool false) rfl (by kernel_rfl) (by kernel_rfl) (by kernel_rfl) (fun _ _ _ h => h) (.inl ⟨by rfl, fun V hV => by obtain ⟨c0, c1, c2, c3⟩ := hV; go_simp⟩) hHeld ?_
                try simp only [Act.put, List.getElem_toArray, List.getElem_cons_zero, List.getElem_cons_succ, List.setIfInBounds_toArray, List.set_cons_zero, List.set_cons_succ]
                refine wpAnyH_done (by kernel_rfl) ?_ _
                refine NoPanic.normal ?_
                go_wp2_with fail
                obtain ⟨q0, q1, q2, q3, q4⟩ := set5_cells z8 (.bool st1) (.slice Al ml cl) (.bool true) (.slice Ar mr cr) (.bool br)
                refine bodyPost_ret (v := .tuple #[.agg #[.bool st1, .slice Al ml cl, .bool true, .slice Ar mr cr, .bool br], .bool false]) (by simp [results, Tryz.results76, go_sem, q0, q1, q2, q3, q4]) rfl ⟨?_, (below_set5 hbA (Nat.le_refl _) _ _ _ _ _).drew⟩
                rw [HR.out]
                exact ⟨{ sl := st1, xl := xl, sr := true, xr := xr, br := br }, Al, ml, cl, Ar, mr, cr, rfl, fun y hy => by cases hy⟩
            · have hR : R = none := by rw [Hrp.out, if_neg (fun h => hg2 h.2.1)]
              have HR := Lib.hid hR
              subst hg1
              have gg2 : (e2 == 0) = false := by rw [beq_eq_false_iff_ne]; exact hg2
              clear hg2
              clear hR Hrp
              refine wp_region_noPanic ?_
              refine wp_region_held_drew (S := (fun V => V.cell? ⟨b1, 0, none⟩ = some (.bool st1) ∧ V.cell? ⟨b1, 1, none⟩ = some (.slice Al ml cl) ∧ V.cell? ⟨b2, 0, none⟩ = some (.bool st2) ∧ V.cell? ⟨b2, 1, none⟩ = some (.slice Ar mr cr))) (by kernel_rfl) ⟨l0, l1, m0, m1⟩ (fun hHeld => ?_)
              refine wpAnyH_take (i := 0) (v := .agg #[.bool st1, .slice Al ml cl]) rfl (by kernel_rfl) (by kernel_rfl) (by kernel_rfl) (fun _ _ _ h => h) (.inl ⟨by rfl, fun V hV => by obtain ⟨c0, c1, c2, c3⟩ := hV; go_simp⟩) hHeld ?_
              try simp only [Act.put, List.getElem_toArray, List.getElem_cons_zero, List.setIfInBounds_toArray, List.set_cons_zero, List.set_cons_succ]
              refine wpAnyH_take (i := 1) (v := .agg #[.bool st2, .slice Ar mr cr]) rfl (by kernel_rfl) (by kernel_rfl) (by kernel_rfl) (fun _ _ _ h => h) (.inl ⟨by rfl, fun V hV => by obtain ⟨c0, c1, c2, c3⟩ := hV; go_simp⟩) hHeld ?_
              try simp only [Act.put, List.getElem_toArray, List.getElem_cons_zero, List.getElem_cons_succ, List.setIfInBounds_toArray, List.set_cons_zero, List.set_cons_succ]
              refine wpAnyH_take (i := 2) (v := .string ⟨s.toArray⟩) rfl (by kernel_rfl) (by kernel_rfl) (by kernel_rfl) (fun _ _ _ h => h) (.inl ⟨by rfl, fun V hV => by obtain ⟨c0, c1, c2, c3⟩ := hV; go_simp⟩) hHeld ?_
              try simp only [Act.put, List.getElem_toArray, List.getElem_cons_zero, List.getElem_cons_succ, List.setIfInBounds_toArray, List.set_cons_zero, List.set_cons_succ]
              refine wpAnyH_take (i := 3) (v := .int .i64 (pos : Int)) rfl (by kernel_rfl) (by kernel_rfl) (by kernel_rfl) (fun _ _ _ h => h) (.inl ⟨by rfl, fun V hV => by obtain ⟨c0, c1, c2, c3⟩ := hV; go_simp⟩) hHeld ?_
              try simp only [Act.put, List.getElem_toArray, List.getElem_cons_zero, List.getElem_cons_succ, List.setIfInBounds_toArray, List.set_cons_zero, List.set_cons_succ]
              refine wpAnyH_take (i := 4) (v := .int .u8 (s[pos].toNat : Int)) rfl (by kernel_rfl) (by kernel_rfl) (by kernel_rfl) (fun _ _ _ h => h) (.inl ⟨by rfl, fun V hV => by obtain ⟨c0, c1, c2, c3⟩ := hV; go_simp⟩) hHeld ?_
              try simp only [Act.put, List.getElem_toArray, List.getElem_cons_zero, List.getElem_cons_succ, List.setIfInBounds_toArray, List.set_cons_zero, List.set_cons_succ]
              refine wpAnyH_take (i := 5) (v := .bool br) rfl (by kernel_rfl) (by kernel_rfl) (by kernel_rfl) (fun _ _ _ h => h) (.inl ⟨by rfl, fun V hV => by obtain ⟨c0, c1, c2, c3⟩ := hV; go_simp⟩) hHeld ?_
              try simp only [Act.put, List.getElem_toArray, List.getElem_cons_zero, List.getElem_cons_succ, List.setIfInBounds_toArray, List.set_cons_zero, List.set_cons_succ]
              refine wpAnyH_take (i := 6) (v := .agg #[.bool st1, .slice Al ml cl, .bool st2, .slice Ar mr cr, .bool br]) rfl (by kernel_rfl) (by kernel_rfl) (by kernel_rfl) (fun _ _ _ h => h) (.inl ⟨by rfl, fun V hV => by obtain ⟨c0, c1, c2, c3⟩ := hV; go_simp⟩) hHeld ?_
              try simp only [Act.put, List.getElem_toArray, List.getElem_cons_zero, List.getElem_cons_succ, List.setIfInBounds_toArray, List.set_cons_zero, List.set_cons_succ]
              refine wpAnyH_take (i := 7) (v := .int .i64 0) rfl (by kernel_rfl) (by kernel_rfl) (by kernel_rfl) (fun _ _ _ h => h) (.inl ⟨by rfl, fun V hV => by obtain ⟨c0, c1, c2, c3⟩ := hV; go_simp⟩) hHeld ?_
              try simp only [Act.put, List.getElem_toArray, List.getElem_cons_zero, List.getElem_cons_succ, List.setIfInBounds_toArray, List.set_cons_zero, List.set_cons_succ]
              refine wpAnyH_take (i := 8) (v := .bool true) rfl (by kernel_rfl) (by kernel_rfl) (by kernel_rfl) (fun _ _ _ h => h) (.inl ⟨by rfl, fun V hV => by obtain ⟨c0, c1, c2, c3⟩ := hV; go_simp⟩) hHeld ?_
              try simp only [Act.put, List.getElem_toArray, List.getElem_cons_zero, List.getElem_cons_succ, List.setIfInBounds_toArray, List.set_cons_zero, List.set_cons_succ]
              refine wpAnyH_take (i := 9) (v := .bool true) rfl (by kernel_rfl) (by kernel_rfl) (by kernel_rfl) (fun _ _ _ h => h) (.inl ⟨by rfl, fun V hV => by obtain ⟨c0, c1, c2, c3⟩ := hV; go_simp⟩) hHeld ?_
              try simp only [Act.put, List.getElem_toArray, List.getElem_cons_zero, List.getElem_cons_succ, List.setIfInBounds_toArray, List.set_cons_zero, List.set_cons_succ]
              refine wpAnyH_take (i := 10) (v := .int .i64 e2) rfl (by kernel_rfl) (by kernel_rfl) (by kernel_rfl) (fun _ _ _ h => h) (.inl ⟨by rfl, fun V hV => by obtain ⟨c0, c1, c2, c3⟩ := hV; go_simp⟩) hHeld ?_
              try simp only [Act.put, List.getElem_toArray, List.getElem_cons_zero, List.getElem_cons_succ, List.setIfInBounds_toArray, List.set_cons_zero, List.set_cons_succ]
              refine wpAnyH_take (i := 11) (v := .bool false) rfl (by kernel_rfl) (by kernel_rfl) (by kernel_rfl) (fun _ _ _ h => h) (.inl ⟨by rfl, fun V hV => by obtain ⟨c0, c1, c2, c3⟩ := hV; go_simp⟩) hHeld ?_
              try simp only [Act.put, List.getElem_toArray, List.getElem_cons_zero, List.getElem_cons_succ, List.setIfInBounds_toArray, List.set_cons_zero, List.set_cons_succ]
              refine wpAnyH_take (i := 12) (v := .bool false) rfl (by kernel_rfl) (by kernel_rfl) (by kernel_rfl) (fun _ _ _ h => h) (.inl ⟨by rfl, fun V hV => by obtain ⟨c0, c1, c2, c3⟩ := hV; go_simp⟩) hHeld ?_
              try simp only [Act.put, List.getElem_toArray, List.getElem_cons_zero, List.getElem_cons_succ, List.setIfInBounds_toArray, List.set_cons_zero, List.set_cons_succ]
              refine wpAnyH_take (i := 13) (v := .bool false) rfl (by kernel_rfl) (by kernel_rfl) (by kernel_rfl) (fun _ _ _ h => h) (.inl ⟨by rfl, fun V hV => by obtain ⟨c0, c1, c2, c3⟩ := hV; go_simp⟩) hHeld ?_
              try simp only [Act.put, List.getElem_toArray, List.getElem_cons_zero, List.getElem_cons_succ, List.setIfInBounds_toArray, List.set_cons_zero, List.set_cons_succ]
              refine wpAnyH_take (i := 14) (v := undef) rfl (by kernel_rfl) (by kernel_rfl) (by kernel_rfl) (fun _ _ _ h => h) (.inr ⟨by rfl, rfl⟩) hHeld ?_
              try simp only [Act.put, List.getElem_toArray, List.getElem_cons_zero, List.getElem_cons_succ, List.setIfInBounds_toArray, List.set_cons_zero, List.set_cons_succ]
              refine wpAnyH_take (i := 15) (v := undef) rfl (by kernel_rfl) (by kernel_rfl) (by kernel_rfl) (fun _ _ _ h => h) (.inr ⟨by rfl, rfl⟩) hHeld ?_
              try simp only [Act.put, List.getElem_toArray, List.getElem_cons_zero, List.getElem_cons_succ, List.setIfInBounds_toArray, List.set_cons_zero, List.set_cons_succ]
              refine wpAnyH_take (i := 16) (v := undef) rfl (by kernel_rfl) (by kernel_rfl) (by kernel_rfl) (fun _ _ _ h => h) (.inr ⟨by rfl, rfl⟩) hHeld ?_
              try simp only [Act.put, List.getElem_toArray, List.getElem_cons_zero, List.getElem_cons_succ, List.setIfInBounds_toArray, List.set_cons_zero, List.set_cons_succ]
              refine wpAnyH_take (i := 17) (v := .bool false) rfl (by kernel_rfl) (by kernel_rfl) (by kernel_rfl) (fun _ _ _ h => h) (.inl ⟨by rfl, fun V hV => by obtain ⟨c0, c1, c2, c3⟩ := hV; go_simp⟩) hHeld ?_
              try simp only [Act.put, List.getElem_toArray, List.getElem_cons_zero, List.getElem_cons_succ, List.setIfInBounds_toArray, List.set_cons_zero, List.set_cons_succ]
              refine wpAnyH_ready (rs := [18]) (by kernel_rfl) (by simp) ?_
              refine AllReadyH.cons rfl (fun K hK => ?_) AllReadyH.nil
              go_simp
              have hs0 : (((((W.setCell ⟨w.heap.size, 0, none⟩ (.bool st1)).setCell ⟨w.heap.size, 1, none⟩ (.slice Al ml cl)).setCell ⟨w.heap.size, 2, none⟩ (.bool st2)).setCell ⟨w.heap.size, 3, none⟩ (.slice Ar mr cr)).setCell ⟨w.heap.size, 4, none⟩ (.bool br)).drew.cell? ⟨b1, 0, none⟩ = some (.bool st1) := (cell_drew _ _).trans ((World.cell?_of_block (a := ⟨b1, 0, none⟩) (heap_set5 hb1n _ _ _ _ _)).trans l0)
              have hs1 : (((((W.setCell ⟨w.heap.size, 0, none⟩ (.bool st1)).setCell ⟨w.heap.size, 1, none⟩ (.slice Al ml cl)).setCell ⟨w.heap.size, 2, none⟩ (.bool st2)).setCell ⟨w.heap.size, 3, none⟩ (.slice Ar mr cr)).setCell ⟨w.heap.size, 4, none⟩ (.bool br)).drew.cell? ⟨b1, 1, none⟩ = some (.slice Al ml cl) := (cell_drew _ _).trans ((World.cell?_of_block (a := ⟨b1, 1, none⟩) (heap_set5 hb1n _ _ _ _ _)).trans l1)
              have hs2 : (((((W.setCell ⟨w.heap.size, 0, none⟩ (.bool st1)).setCell ⟨w.heap.size, 1, none⟩ (.slice Al ml cl)).setCell ⟨w.heap.size, 2, none⟩ (.bool st2)).setCell ⟨w.heap.size, 3, none⟩ (.slice Ar mr cr)).setCell ⟨w.heap.size, 4, none⟩ (.bool br)).drew.cell? ⟨b2, 0, none⟩ = some (.bool st2) := (cell_drew _ _).trans ((World.cell?_of_block (a := ⟨b2, 0, none⟩) (heap_set5 hb2n _ _ _ _ _)).trans m0)
              have hs3 : (((((W.setCell ⟨w.heap.size, 0, none⟩ (.bool st1)).setCell ⟨w.heap.size, 1, none⟩ (.slice Al ml cl)).setCell ⟨w.heap.size, 2, none⟩ (.bool st2)).setCell ⟨w.heap.size, 3, none⟩ (.slice Ar mr cr)).setCell ⟨w.heap.size, 4, none⟩ (.bool br)).drew.cell? ⟨b2, 1, none⟩ = some (.slice Ar mr cr) := (cell_drew _ _).trans ((World.cell?_of_block (a := ⟨b2, 1, none⟩) (heap_set5 hb2n _ _ _ _ _)).trans m1)
              refine hK.out _ _ ⟨hs0, hs1, hs2, hs3⟩ (fun hHeld => ?_)
              clear hK K
              try simp only [Act.put, List.getElem_toArray, List.getElem_cons_zero, List.getElem_cons_succ, List.setIfInBounds_toArray, List.set_cons_zero, List.set_cons_succ]
              refine wpAnyH_take (i := 19) (v := .bool false) rfl (by kernel_rfl) (by kernel_rfl) (by kernel_rfl) (fun _ _ _ h => h) (.inl ⟨by rfl, fun V hV => by obtain ⟨c0, c1, c2, c3⟩ := hV; go_simp⟩) hHeld ?_
              try simp only [Act.put, List.getElem_toArray, List.getElem_cons_zero, List.getElem_cons_succ, List.setIfInBounds_toArray, List.set_cons_zero, List.set_cons_succ]
              refine wpAnyH_done (by kernel_rfl) ?_ _
              refine NoPanic.normal ?_
              go_wp2_with fail
              obtain ⟨q0, q1, q2, q3, q4⟩ := set5_cells z8 (.bool st1) (.slice Al ml cl) (.bool st2) (.slice Ar mr cr) (.bool br)
              refine bodyPost_ret (v := .tuple #[.agg #[.bool st1, .slice Al ml cl, .bool st2, .slice Ar mr cr, .bool br], .bool false]) (by simp [results, Tryz.results76, go_sem, q0, q1, q2, q3, q4]) rfl ⟨?_, (below_set5 hbA (Nat.le_refl _) _ _ _ _ _).drew⟩
              rw [HR.out]
              exact ⟨{ sl := st1, xl := xl, sr := st2, xr := xr, br := br }, Al, ml, cl, Ar, mr, cr, rfl, fun y hy => by cases hy⟩
          · have hR : R = none := by rw [Hrp.out, if_neg (fun h => hg1 h.1)]
            have HR := Lib.hid hR
            have gg1 : (e1 == 0) = false := by rw [beq_eq_false_iff_ne]; exact hg1
            clear hg1
            clear hR Hrp
            refine wp_region_noPanic ?_
            refine wp_region_held_drew (S := (fun V => V.cell? ⟨b1, 0, none⟩ = some (.bool st1) ∧ V.cell? ⟨b1, 1, none⟩ = some (.slice Al ml cl) ∧ V.cell? ⟨b2, 0, none⟩ = some (.bool st2) ∧ V.cell? ⟨b2, 1, none⟩ = some (.slice Ar mr cr))) (by kernel_rfl) ⟨l0, l1, m0, m1⟩ (fun hHeld => ?_)
            refine wpAnyH_take (i := 0) (v := .agg #[.bool st1, .slice Al ml cl]) rfl (by kernel_rfl) (by kernel_rfl) (by kernel_rfl) (fun _ _ _ h => h) (.inl ⟨by rfl, fun V hV => by obtain ⟨c0, c1, c2, c3⟩ := hV; go_simp⟩) hHeld ?_
            try simp only [Act.put, List.getElem_toArray, List.getElem_cons_zero, List.setIfInBounds_toArray, List.set_cons_zero, List.set_cons_succ]
            refine wpAnyH_take (i := 1) (v := .agg #[.bool st2, .slice Ar mr cr]) rfl (by kernel_rfl) (by kernel_rfl) (by kernel_rfl) (fun _ _ _ h => h) (.inl ⟨by rfl, fun V hV => by obtain ⟨c0, c1, c2, c3⟩ := hV; go_simp⟩) hHeld ?_
            try simp only [Act.put, List.getElem_toArray, List.getElem_cons_zero, List.getElem_cons_succ, List.setIfInBounds_toArray, List.set_cons_zero, List.set_cons_succ]
            refine wpAnyH_take (i := 2) (v := .string ⟨s.toArray⟩) rfl (by kernel_rfl) (by kernel_rfl) (by kernel_rfl) (fun _ _ _ h => h) (.inl ⟨by rfl, fun V hV => by obtain ⟨c0, c1, c2, c3⟩ := hV; go_simp⟩) hHeld ?_
            try simp only [Act.put, List.getElem_toArray, List.getElem_cons_zero, List.getElem_cons_succ, List.setIfInBounds_toArray, List.set_cons_zero, List.set_cons_succ]
            refine wpAnyH_take (i := 3) (v := .int .i64 (pos : Int)) rfl (by kernel_rfl) (by kernel_rfl) (by kernel_rfl) (fun _ _ _ h => h) (.inl ⟨by rfl, fun V hV => by obtain ⟨c0, c1, c2, c3⟩ := hV; go_simp⟩) hHeld ?_
            try simp only [Act.put, List.getElem_toArray, List.getElem_cons_zero, List.getElem_cons_succ, List.setIfInBounds_toArray, List.set_cons_zero, List.set_cons_succ]
            refine wpAnyH_take (i := 4) (v := .int .u8 (s[pos].toNat : Int)) rfl (by kernel_rfl) (by kernel_rfl) (by kernel_rfl) (fun _ _ _ h => h) (.inl ⟨by rfl, fun V hV => by obtain ⟨c0, c1, c2, c3⟩ := hV; go_simp⟩) hHeld ?_
            try simp only [Act.put, List.getElem_toArray, List.getElem_cons_zero, List.getElem_cons_succ, List.setIfInBounds_toArray, List.set_cons_zero, List.set_cons_succ]
            refine wpAnyH_take (i := 5) (v := .bool br) rfl (by kernel_rfl) (by kernel_rfl) (by kernel_rfl) (fun _ _ _ h => h) (.inl ⟨by rfl, fun V hV => by obtain ⟨c0, c1, c2, c3⟩ := hV; go_simp⟩) hHeld ?_
            try simp only [Act.put, List.getElem_toArray, List.getElem_cons_zero, List.getElem_cons_succ, List.setIfInBounds_toArray, List.set_cons_zero, List.set_cons_succ]
            refine wpAnyH_take (i := 6) (v := .agg #[.bool st1, .slice Al ml cl, .bool st2, .slice Ar mr cr, .bool br]) rfl (by kernel_rfl) (by kernel_rfl) (by kernel_rfl) (fun _ _ _ h => h) (.inl ⟨by rfl, fun V hV => by obtain ⟨c0, c1, c2, c3⟩ := hV; go_simp⟩) hHeld ?_
            try simp only [Act.put, List.getElem_toArray, List.getElem_cons_zero, List.getElem_cons_succ, List.setIfInBounds_toArray, List.set_cons_zero, List.set_cons_succ]
            refine wpAnyH_take (i := 7) (v := .int .i64 e1) rfl (by kernel_rfl) (by kernel_rfl) (by kernel_rfl) (fun _ _ _ h => h) (.inl ⟨by rfl, fun V hV => by obtain ⟨c0, c1, c2, c3⟩ := hV; go_simp⟩) hHeld ?_
            try simp only [Act.put, List.getElem_toArray, List.getElem_cons_zero, List.getElem_cons_succ, List.setIfInBounds_toArray, List.set_cons_zero, List.set_cons_succ]
            refine wpAnyH_take (i := 8) (v := .bool false) rfl (by kernel_rfl) (by kernel_rfl) (by kernel_rfl) (fun _ _ _ h => h) (.inl ⟨by rfl, fun V hV => by obtain ⟨c0, c1, c2, c3⟩ := hV; go_simp⟩) hHeld ?_
            try simp only [Act.put, List.getElem_toArray, List.getElem_cons_zero, List.getElem_cons_succ, List.setIfInBounds_toArray, List.set_cons_zero, List.set_cons_succ]
            refine wpAnyH_take (i := 9) (v := .bool false) rfl (by kernel_rfl) (by kernel_rfl) (by kernel_rfl) (fun _ _ _ h => h) (.inl ⟨by rfl, fun V hV => by obtain ⟨c0, c1, c2, c3⟩ := hV; go_simp⟩) hHeld ?_
            try simp only [Act.put, List.getElem_toArray, List.getElem_cons_zero, List.getElem_cons_succ, List.setIfInBounds_toArray, List.set_cons_zero, List.set_cons_succ]
            refine wpAnyH_take (i := 10) (v := undef) rfl (by kernel_rfl) (by kernel_rfl) (by kernel_rfl) (fun _ _ _ h => h) (.inr ⟨by rfl, rfl⟩) hHeld ?_
            try simp only [Act.put, List.getElem_toArray, List.getElem_cons_zero, List.getElem_cons_succ, List.setIfInBounds_toArray, List.set_cons_zero, List.set_cons_succ]
            refine wpAnyH_take (i := 11) (v := undef) rfl (by kernel_rfl) (by kernel_rfl) (by kernel_rfl) (fun _ _ _ h => h) (.inr ⟨by rfl, rfl⟩) hHeld ?_
            try simp only [Act.put, List.getElem_toArray, List.getElem_cons_zero, List.getElem_cons_succ, List.setIfInBounds_toArray, List.set_cons_zero, List.set_cons_succ]
            refine wpAnyH_take (i := 12) (v := .bool false) rfl (by kernel_rfl) (by kernel_rfl) (by kernel_rfl) (fun _ _ _ h => h) (.inl ⟨by rfl, fun V hV => by obtain ⟨c0, c1, c2, c3⟩ := hV; go_simp⟩) hHeld ?_
            try simp only [Act.put, List.getElem_toArray, List.getElem_cons_zero, List.getElem_cons_succ, List.setIfInBounds_toArray, List.set_cons_zero, List.set_cons_succ]
            refine wpAnyH_take (i := 13) (v := .bool false) rfl (by kernel_rfl) (by kernel_rfl) (by kernel_rfl) (fun _ _ _ h => h) (.inl ⟨by rfl, fun V hV => by obtain ⟨c0, c1, c2, c3⟩ := hV; go_simp⟩) hHeld ?_
            try simp only [Act.put, List.getElem_toArray, List.getElem_cons_zero, List.getElem_cons_succ, List.setIfInBounds_toArray, List.set_cons_zero, List.set_cons_succ]
            refine wpAnyH_take (i := 14) (v := undef) rfl (by kernel_rfl) (by kernel_rfl) (by kernel_rfl) (fun _ _ _ h => h) (.inr ⟨by rfl, rfl⟩) hHeld ?_
            try simp only [Act.put, List.getElem_toArray, List.getElem_cons_zero, List.getElem_cons_succ, List.setIfInBounds_toArray, List.set_cons_zero, List.set_cons_succ]
            refine wpAnyH_take (i := 15) (v := undef) rfl (by kernel_rfl) (by kernel_rfl) (by kernel_rfl) (fun _ _ _ h => h) (.inr ⟨by rfl, rfl⟩) hHeld ?_
            try simp only [Act.put, List.getElem_toArray, List.getElem_cons_zero, List.getElem_cons_succ, List.setIfInBounds_toArray, List.set_cons_zero, List.set_cons_succ]
            refine wpAnyH_take (i := 16) (v := undef) rfl (by kernel_rfl) (by kernel_rfl) (by kernel_rfl) (fun _ _ _ h => h) (.inr ⟨by rfl, rfl⟩) hHeld ?_
            try simp only [Act.put, List.getElem_toArray, List.getElem_cons_zero, List.getElem_cons_succ, List.setIfInBounds_toArray, List.set_cons_zero, List.set_cons_succ]
            refine wpAnyH_take (i := 17) (v := .bool false) rfl (by kernel_rfl) (by kernel_rfl) (by kernel_rfl) (fun _ _ _ h => h) (.inl ⟨by rfl, fun V hV => by obtain ⟨c0, c1, c2, c3⟩ := hV; go_simp⟩) hHeld ?_
            try simp only [Act.put, List.getElem_toArray, List.getElem_cons_zero, List.getElem_cons_succ, List.setIfInBounds_toArray, List.set_cons_zero, List.set_cons_succ]
            refine wpAnyH_ready (rs := [18]) (by kernel_rfl) (by simp) ?_
            refine AllReadyH.cons rfl (fun K hK => ?_) AllReadyH.nil
            go_simp
            have hs0 : (((((W.setCell ⟨w.heap.size, 0, none⟩ (.bool st1)).setCell ⟨w.heap.size, 1, none⟩ (.slice Al ml cl)).setCell ⟨w.heap.size, 2, none⟩ (.bool st2)).setCell ⟨w.heap.size, 3, none⟩ (.slice Ar mr cr)).setCell ⟨w.heap.size, 4, none⟩ (.bool br)).drew.cell? ⟨b1, 0, none⟩ = some (.bool st1) := (cell_drew _ _).trans ((World.cell?_of_block (a := ⟨b1, 0, none⟩) (heap_set5 hb1n _ _ _ _ _)).trans l0)
            have hs1 : (((((W.setCell ⟨w.heap.size, 0, none⟩ (.bool st1)).setCell ⟨w.heap.size, 1, none⟩ (.slice Al ml cl)).setCell ⟨w.heap.size, 2, none⟩ (.bool st2)).setCell ⟨w.heap.size, 3, none⟩ (.slice Ar mr cr)).setCell ⟨w.heap.size, 4, none⟩ (.bool br)).drew.cell? ⟨b1, 1, none⟩ = some (.slice Al ml cl) := (cell_drew _ _).trans ((World.cell?_of_block (a := ⟨b1, 1, none⟩) (heap_set5 hb1n _ _ _ _ _)).trans l1)
            have hs2 : (((((W.setCell ⟨w.heap.size, 0, none⟩ (.bool st1)).setCell ⟨w.heap.size, 1, none⟩ (.slice Al ml cl)).setCell ⟨w.heap.size, 2, none⟩ (.bool st2)).setCell ⟨w.heap.size, 3, none⟩ (.slice Ar mr cr)).setCell ⟨w.heap.size, 4, none⟩ (.bool br)).drew.cell? ⟨b2, 0, none⟩ = some (.bool st2) := (cell_drew _ _).trans ((World.cell?_of_block (a := ⟨b2, 0, none⟩) (heap_set5 hb2n _ _ _ _ _)).trans m0)
            have hs3 : (((((W.setCell ⟨w.heap.size, 0, none⟩ (.bool st1)).setCell ⟨w.heap.size, 1, none⟩ (.slice Al ml cl)).setCell ⟨w.heap.size, 2, none⟩ (.bool st2)).setCell ⟨w.heap.size, 3, none⟩ (.slice Ar mr cr)).setCell ⟨w.heap.size, 4, none⟩ (.bool br)).drew.cell? ⟨b2, 1, none⟩ = some (.slice Ar mr cr) := (cell_drew _ _).trans ((World.cell?_of_block (a := ⟨b2, 1, none⟩) (heap_set5 hb2n _ _ _ _ _)).trans m1)
            refine hK.out _ _ ⟨hs0, hs1, hs2, hs3⟩ (fun hHeld => ?_)
            clear hK K
            try simp only [Act.put, List.getElem_toArray, List.getElem_cons_zero, List.getElem_cons_succ, List.setIfInBounds_toArray, List.set_cons_zero, List.set_cons_succ]
            refine wpAnyH_take (i := 19) (v := .bool false) rfl (by kernel_rfl) (by kernel_rfl) (by kernel_rfl) (fun _ _ _ h => h) (.inl ⟨by rfl, fun V hV => by obtain ⟨c0, c1, c2, c3⟩ := hV; go_simp⟩) hHeld ?_
            try simp only [Act.put, List.getElem_toArray, List.getElem_cons_zero, List.getElem_cons_succ, List.setIfInBounds_toArray, List.set_cons_zero, List.set_cons_succ]
            refine wpAnyH_done (by kernel_rfl) ?_ _
            refine NoPanic.normal ?_
            go_wp2_with fail
            obtain ⟨q0, q1, q2, q3, q4⟩ := set5_cells z8 (.bool st1) (.slice Al ml cl) (.bool st2) (.slice Ar mr cr) (.bool br)
            refine bodyPost_ret (v := .tuple #[.agg #[.bool st1, .slice Al ml cl, .bool st2, .slice Ar mr cr, .bool br], .bool false]) (by simp [results, Tryz.results76, go_sem, q0, q1, q2, q3, q4]) rfl ⟨?_, (below_set5 hbA (Nat.le_refl _) _ _ _ _ _).drew⟩
            rw [HR.out]
            exact ⟨{ sl := st1, xl := xl, sr := st2, xr := xr, br := br }, Al, ml, cl, Ar, mr, cr, rfl, fun y hy => by cases hy⟩

        · go_wp2_with fail
          refine (Ht9.out _).mono ?_
          rintro e w4 ⟨rfl, rfl⟩
          go_wp2_with fail
          refine (Hp9.out _ hb0).mono ?_
          rintro e w5 ⟨⟨Al, ml, cl, rfl, hPl, hml, hfl⟩, hb5⟩
          have z5 := (hb5.block _ (Array.getElem?_eq_some_iff.1 z0).1).trans z0
          have hb6 : Below w.heap.size w w5 := hb0.trans (hb5.mono hb0.size)
          have hfl2 : Fresh (w.heap.size + 1) Al ml := fun h => by
            obtain ⟨b, o, e, hb⟩ := hfl h
            exact ⟨b, o, e, by simpa using hb⟩
          have d5 : (w5.alloc (.cells #[.bool st1, .slice Al ml cl] 96)).heap[w5.heap.size]? = some (.cells #[.bool st1, .slice Al ml cl] 96 (0, 0)) := heap_new rfl
          have z6 : (w5.alloc (.cells #[.bool st1, .slice Al ml cl] 96)).heap[w.heap.size]? = some (.cells zeroR 99 (0, 0)) := (heap_old (Array.getElem?_eq_some_iff.1 z5).1).trans z5
          have hb7 : Below w.heap.size w (w5.alloc (.cells #[.bool st1, .slice Al ml cl] 96)) := hb6.alloc hb6.size _
          have hP7 := (hPl.below ((Below.refl _ w5).alloc (Nat.le_refl _) (.cells #[.bool st1, .slice Al ml cl] 96))).more (show w5.heap.size ≤ (w5.alloc (.cells #[.bool st1, .slice Al ml cl] 96)).heap.size by simp)
          have hs5 : w.heap.size < w5.heap.size := (Array.getElem?_eq_some_iff.1 z5).1
          clear Ht9 Hp9 hPl hfl z0 z5 hb0 hb5 hb6
          go_wp2_with fail
          refine (Ht10.out _).mono ?_
          rintro e w6 ⟨rfl, rfl⟩
          go_wp2_with fail
          refine (Hp10.out _ hb7).mono ?_
          rintro e w7 ⟨⟨Ar, mr, cr, rfl, hPr, hmr, hfr⟩, hb8⟩
          have z7 := (hb8.block _ (Array.getElem?_eq_some_iff.1 z6).1).trans z6
          have d7 := (hb8.block _ (Array.getElem?_eq_some_iff.1 d5).1).trans d5
          have hb9 : Below w.heap.size w w7 := hb7.trans (hb8.mono hb7.size)
          have hfr2 : Fresh (w.heap.size + 1) Ar mr := fun h => by
            obtain ⟨b, o, e, hb⟩ := hfr h
            exact ⟨b, o, e, by simp at hb; omega⟩
          have d8 : (w7.alloc (.cells #[.bool st2, .slice Ar mr cr] 96)).heap[w7.heap.size]? = some (.cells #[.bool st2, .slice Ar mr cr] 96 (0, 0)) := heap_new rfl
          have d9 : (w7.alloc (.cells #[.bool st2, .slice Ar mr cr] 96)).heap[w5.heap.size]? = some (.cells #[.bool st1, .slice Al ml cl] 96 (0, 0)) := (heap_old (Array.getElem?_eq_some_iff.1 d7).1).trans d7
          have z8 : (w7.alloc (.cells #[.bool st2, .slice Ar mr cr] 96)).heap[w.heap.size]? = some (.cells zeroR 99 (0, 0)) := (heap_old (Array.getElem?_eq_some_iff.1 z7).1).trans z7
          have hbA : Below w.heap.size w (w7.alloc (.cells #[.bool st2, .slice Ar mr cr] 96)) := hb9.alloc hb9.size _
          have hal : Below w7.heap.size w7 (w7.alloc (.cells #[.bool st2, .slice Ar mr cr] 96)) := (Below.refl _ w7).alloc (Nat.le_refl _) _
          have hPA := (((hP7.below hb8).more hb8.size).below hal).more hal.size
          have hPB := (hPr.below hal).more hal.size
          have hb2l : w.heap.size < w7.heap.size := (Array.getElem?_eq_some_iff.1 z7).1
          clear Ht10 Hp10 hP7 hPr hfr z6 z7 d5 d7 hb7 hb8 hb9 hal
          go_wp2_with fail
          generalize (w7.alloc (.cells #[.bool st2, .slice Ar mr cr] 96)) = W at *
          generalize w7.heap.size = b2 at *
          generalize w5.heap.size = b1 at *
          have l0 := cell_blk d9 0
          have l1 := cell_blk d9 1
          have m0 := cell_blk d8 0
          have m1 := cell_blk d8 1
          simp only [List.getElem?_toArray, List.getElem?_cons_zero, List.getElem?_cons_succ] at l0 l1 m0 m1
          have z8d : W.drew.heap[w.heap.size]? = some (.cells zeroR 99 (0, 0)) := z8
          have hb1n : b1 ≠ w.heap.size := by omega
          have hb2n : b2 ≠ w.heap.size := by omega
          have f0 := frozen_blk z8 0
          have f1 := frozen_blk z8 1
          have f2 := frozen_blk z8 2
          have f3 := frozen_blk z8 3
          have f4 := frozen_blk z8 4
          have g0 := cell_blk z8 0
          have g1 := cell_blk z8 1
          have g2 := cell_blk z8 2
          have g3 := cell_blk z8 3
          have g4 := cell_blk z8 4
          simp only [zeroR, List.getElem?_toArray, List.getElem?_cons_zero, List.getElem?_cons_succ] at g0 g1 g2 g3 g4
          by_cases hg1 : e1 = 0
          · by_cases hg2 : e2 = 0
            · subst hg1 hg2
              rcases st2 with _ | _
              · have hR : R = some { sl := st1, xl := xl, sr := false, xr := xr, br := br } := by rw [Hrp.out, if_pos ⟨rfl, rfl, rfl⟩]
                have HR := Lib.hid hR
                clear hR Hrp
                refine wp_region_noPanic ?_
                refine wp_region_held_drew (S := (fun V => V.cell? ⟨b1, 0, none⟩ = some (.bool st1) ∧ V.cell? ⟨b1, 1, none⟩ = some (.slice Al ml cl) ∧ V.cell? ⟨b2, 0, none⟩ = some (.bool false) ∧ V.cell? ⟨b2, 1, none⟩ = some (.slice Ar mr cr))) (by kernel_rfl) ⟨l0, l1, m0, m1⟩ (fun hHeld => ?_)
                refine wpAnyH_take (i := 0) (v := .agg #[.bool st1, .slice Al ml cl]) rfl (by kernel_rfl) (by kernel_rfl) (by kernel_rfl) (fun _ _ _ h => h) (.inl ⟨by rfl, fun V hV => by obtain ⟨c0, c1, c2, c3⟩ := hV; go_simp⟩) hHeld ?_
                try simp only [Act.put, List.getElem_toArray, List.getElem_cons_zero, List.setIfInBounds_toArray, List.set_cons_zero, List.set_cons_succ]
                refine wpAnyH_take (i := 1) (v := .agg #[.bool false, .slice Ar mr cr]) rfl (by kernel_rfl) (by kernel_rfl) (by kernel_rfl) (fun _ _ _ h => h) (.inl ⟨by rfl, fun V hV => by obtain ⟨c0, c1, c2, c3⟩ := hV; go_simp⟩) hHeld ?_
                try simp only [Act.put, List.getElem_toArray, List.getElem_cons_zero, List.getElem_cons_succ, List.setIfInBounds_toArray, List.set_cons_zero, List.set_cons_succ]
                refine wpAnyH_take (i := 2) (v := .string ⟨s.toArray⟩) rfl (by kernel_rfl) (by kernel_rfl) (by kernel_rfl) (fun _ _ _ h => h) (.inl ⟨by rfl, fun V hV => by obtain ⟨c0, c1, c2, c3⟩ := hV; go_simp⟩) hHeld ?_
                try simp only [Act.put, List.getElem_toArray, List.getElem_cons_zero, List.getElem_cons_succ, List.setIfInBounds_toArray, List.set_cons_zero, List.set_cons_succ]
                refine wpAnyH_take (i := 3) (v := .int .i64 (pos : Int)) rfl (by kernel_rfl) (by kernel_rfl) (by kernel_rfl) (fun _ _ _ h => h) (.inl ⟨by rfl, fun V hV => by obtain ⟨c0, c1, c2, c3⟩ := hV; go_simp⟩) hHeld ?_
                try simp only [Act.put, List.getElem_toArray, List.getElem_cons_zero, List.getElem_cons_succ, List.setIfInBounds_toArray, List.set_cons_zero, List.set_cons_succ]
                refine wpAnyH_take (i := 4) (v := .int .u8 (s[pos].toNat : Int)) rfl (by kernel_rfl) (by kernel_rfl) (by kernel_rfl) (fun _ _ _ h => h) (.inl ⟨by rfl, fun V hV => by obtain ⟨c0, c1, c2, c3⟩ := hV; go_simp⟩) hHeld ?_
                try simp only [Act.put, List.getElem_toArray, List.getElem_cons_zero, List.getElem_cons_succ, List.setIfInBounds_toArray, List.set_cons_zero, List.set_cons_succ]
                refine wpAnyH_take (i := 5) (v := .bool br) rfl (by kernel_rfl) (by kernel_rfl) (by kernel_rfl) (fun _ _ _ h => h) (.inl ⟨by rfl, fun V hV => by obtain ⟨c0, c1, c2, c3⟩ := hV; go_simp⟩) hHeld ?_
                try simp only [Act.put, List.getElem_toArray, List.getElem_cons_zero, List.getElem_cons_succ, List.setIfInBounds_toArray, List.set_cons_zero, List.set_cons_succ]
                refine wpAnyH_take (i := 6) (v := .agg #[.bool st1, .slice Al ml cl, .bool false, .slice Ar mr cr, .bool br]) rfl (by kernel_rfl) (by kernel_rfl) (by kernel_rfl) (fun _ _ _ h => h) (.inl ⟨by rfl, fun V hV => by obtain ⟨c0, c1, c2, c3⟩ := hV; go_simp⟩) hHeld ?_
                try simp only [Act.put, List.getElem_toArray, List.getElem_cons_zero, List.getElem_cons_succ, List.setIfInBounds_toArray, List.set_cons_zero, List.set_cons_succ]
                refine wpAnyH_take (i := 7) (v := .int .i64 0) rfl (by kernel_rfl) (by kernel_rfl) (by kernel_rfl) (fun _ _ _ h => h) (.inl ⟨by rfl, fun V hV => by obtain ⟨c0, c1, c2, c3⟩ := hV; go_simp⟩) hHeld ?_
                try simp only [Act.put, List.getElem_toArray, List.getElem_cons_zero, List.getElem_cons_succ, List.setIfInBounds_toArray, List.set_cons_zero, List.set_cons_succ]
                refine wpAnyH_take (i := 8) (v := .bool true) rfl (by kernel_rfl) (by kernel_rfl) (by kernel_rfl) (fun _ _ _ h => h) (.inl ⟨by rfl, fun V hV => by obtain ⟨c0, c1, c2, c3⟩ := hV; go_simp⟩) hHeld ?_
                try simp only [Act.put, List.getElem_toArray, List.getElem_cons_zero, List.getElem_cons_succ, List.setIfInBounds_toArray, List.set_cons_zero, List.set_cons_succ]
                refine wpAnyH_take (i := 9) (v := .bool true) rfl (by kernel_rfl) (by kernel_rfl) (by kernel_rfl) (fun _ _ _ h => h) (.inl ⟨by rfl, fun V hV => by obtain ⟨c0, c1, c2, c3⟩ := hV; go_simp⟩) hHeld ?_
                try simp only [Act.put, List.getElem_toArray, List.getElem_cons_zero, List.getElem_cons_succ, List.setIfInBounds_toArray, List.set_cons_zero, List.set_cons_succ]
                refine wpAnyH_take (i := 10) (v := .int .i64 0) rfl (by kernel_rfl) (by kernel_rfl) (by kernel_rfl) (fun _ _ _ h => h) (.inl ⟨by rfl, fun V hV => by obtain ⟨c0, c1, c2, c3⟩ := hV; go_simp⟩) hHeld ?_
                try simp only [Act.put, List.getElem_toArray, List.getElem_cons_zero, List.getElem_cons_succ, List.setIfInBounds_toArray, List.set_cons_zero, List.set_cons_succ]
                refine wpAnyH_take (i := 11) (v := .bool true) rfl (by kernel_rfl) (by kernel_rfl) (by kernel_rfl) (fun _ _ _ h => h) (.inl ⟨by rfl, fun V hV => by obtain ⟨c0, c1, c2, c3⟩ := hV; go_simp⟩) hHeld ?_
                try simp only [Act.put, List.getElem_toArray, List.getElem_cons_zero, List.getElem_cons_succ, List.setIfInBounds_toArray, List.set_cons_zero, List.set_cons_succ]
                refine wpAnyH_take (i := 12) (v := .bool true) rfl (by kernel_rfl) (by kernel_rfl) (by kernel_rfl) (fun _ _ _ h => h) (.inl ⟨by rfl, fun V hV => by obtain ⟨c0, c1, c2, c3⟩ := hV; go_simp⟩) hHeld ?_
                try simp only [Act.put, List.getElem_toArray, List.getElem_cons_zero, List.getElem_cons_succ, List.setIfInBounds_toArray, List.set_cons_zero, List.set_cons_succ]
                refine wpAnyH_take (i := 13) (v := .bool true) rfl (by kernel_rfl) (by kernel_rfl) (by kernel_rfl) (fun _ _ _ h => h) (.inl ⟨by rfl, fun V hV => by obtain ⟨c0, c1, c2, c3⟩ := hV; go_simp⟩) hHeld ?_
                try simp only [Act.put, List.getElem_toArray, List.getElem_cons_zero, List.getElem_cons_succ, List.setIfInBounds_toArray, List.set_cons_zero, List.set_cons_succ]
                refine wpAnyH_take (i := 14) (v := .pointer (some ⟨b2, 0, none⟩)) rfl (by kernel_rfl) (by kernel_rfl) (by kernel_rfl) (fun _ _ _ h => h) (.inl ⟨by rfl, fun V hV => by obtain ⟨c0, c1, c2, c3⟩ := hV; go_simp⟩) hHeld ?_
                try simp only [Act.put, List.getElem_toArray, List.getElem_cons_zero, List.getElem_cons_succ, List.setIfInBounds_toArray, List.set_cons_zero, List.set_cons_succ]
                refine wpAnyH_take (i := 15) (v := .bool false) rfl (by kernel_rfl) (by kernel_rfl) (by kernel_rfl) (fun _ _ _ h => h) (.inl ⟨by rfl, fun V hV => by obtain ⟨c0, c1, c2, c3⟩ := hV; go_simp⟩) hHeld ?_
                try simp only [Act.put, List.getElem_toArray, List.getElem_cons_zero, List.getElem_cons_succ, List.setIfInBounds_toArray, List.set_cons_zero, List.set_cons_succ]
                refine wpAnyH_take (i := 16) (v := .bool true) rfl (by kernel_rfl) (by kernel_rfl) (by kernel_rfl) (fun _ _ _ h => h) (.inl ⟨by rfl, fun V hV => by obtain ⟨c0, c1, c2, c3⟩ := hV; go_simp⟩) hHeld ?_
                try simp only [Act.put, List.getElem_toArray, List.getElem_cons_zero, List.getElem_cons_succ, List.setIfInBounds_toArray, List.set_cons_zero, List.set_cons_succ]
                refine wpAnyH_take (i := 17) (v := .bool true) rfl (by kernel_rfl) (by kernel_rfl) (by kernel_rfl) (fun _ _ _ h => h) (.inl ⟨by rfl, fun V hV => by obtain ⟨c0, c1, c2, c3⟩ := hV; go_simp⟩) hHeld ?_
                try simp only [Act.put, List.getElem_toArray, List.getElem_cons_zero, List.getElem_cons_succ, List.setIfInBounds_toArray, List.set_cons_zero, List.set_cons_succ]
                refine wpAnyH_ready (rs := [18]) (by kernel_rfl) (by simp) ?_
                refine AllReadyH.cons rfl (fun K hK => ?_) AllReadyH.nil
                go_simp
                have hs0 : (((((W.setCell ⟨w.heap.size, 0, none⟩ (.bool st1)).setCell ⟨w.heap.size, 1, none⟩ (.slice Al ml cl)).setCell ⟨w.heap.size, 2, none⟩ (.bool false)).setCell ⟨w.heap.size, 3, none⟩ (.slice Ar mr cr)).setCell ⟨w.heap.size, 4, none⟩ (.bool br)).drew.cell? ⟨b1, 0, none⟩ = some (.bool st1) := (cell_drew _ _).trans ((World.cell?_of_block (a := ⟨b1, 0, none⟩) (heap_set5 hb1n _ _ _ _ _)).trans l0)
                have hs1 : (((((W.setCell ⟨w.heap.size, 0, none⟩ (.bool st1)).setCell ⟨w.heap.size, 1, none⟩ (.slice Al ml cl)).setCell ⟨w.heap.size, 2, none⟩ (.bool false)).setCell ⟨w.heap.size, 3, none⟩ (.slice Ar mr cr)).setCell ⟨w.heap.size, 4, none⟩ (.bool br)).drew.cell? ⟨b1, 1, none⟩ = some (.slice Al ml cl) := (cell_drew _ _).trans ((World.cell?_of_block (a := ⟨b1, 1, none⟩) (heap_set5 hb1n _ _ _ _ _)).trans l1)
                have hs2 : (((((W.setCell ⟨w.heap.size, 0, none⟩ (.bool st1)).setCell ⟨w.heap.size, 1, none⟩ (.slice Al ml cl)).setCell ⟨w.heap.size, 2, none⟩ (.bool false)).setCell ⟨w.heap.size, 3, none⟩ (.slice Ar mr cr)).setCell ⟨w.heap.size, 4, none⟩ (.bool br)).drew.cell? ⟨b2, 0, none⟩ = some (.bool false) := (cell_drew _ _).trans ((World.cell?_of_block (a := ⟨b2, 0, none⟩) (heap_set5 hb2n _ _ _ _ _)).trans m0)
                have hs3 : (((((W.setCell ⟨w.heap.size, 0, none⟩ (.bool st1)).setCell ⟨w.heap.size, 1, none⟩ (.slice Al ml cl)).setCell ⟨w.heap.size, 2, none⟩ (.bool false)).setCell ⟨w.heap.size, 3, none⟩ (.slice Ar mr cr)).setCell ⟨w.heap.size, 4, none⟩ (.bool br)).drew.cell? ⟨b2, 1, none⟩ = some (.slice Ar mr cr) := (cell_drew _ _).trans ((World.cell?_of_block (a := ⟨b2, 1, none⟩) (heap_set5 hb2n _ _ _ _ _)).trans m1)
                refine hK.out _ _ ⟨hs0, hs1, hs2, hs3⟩ (fun hHeld => ?_)
                clear hK K
                try simp only [Act.put, List.getElem_toArray, List.getElem_cons_zero, List.getElem_cons_succ, List.setIfInBounds_toArray, List.set_cons_zero, List.set_cons_succ]
                refine wpAnyH_take (i := 19) (v := .bool true) rfl (by kernel_rfl) (by kernel_rfl) (by kernel_rfl) (fun _ _ _ h => h) (.inl ⟨by rfl, fun V hV => by obtain ⟨c0, c1, c2, c3⟩ := hV; go_simp⟩) hHeld ?_
                try simp only [Act.put, List.getElem_toArray, List.getElem_cons_zero, List.getElem_cons_succ, List.setIfInBounds_toArray, List.set_cons_zero, List.set_cons_succ]
                refine wpAnyH_done (by kernel_rfl) ?_ _
                refine NoPanic.normal ?_
                go_wp2_with fail
                obtain ⟨q0, q1, q2, q3, q4⟩ := set5_cells z8 (.bool st1) (.slice Al ml cl) (.bool false) (.slice Ar mr cr) (.bool br)
                refine bodyPost_ret (v := .tuple #[.agg #[.bool st1, .slice Al ml cl, .bool false, .slice Ar mr cr, .bool br], .bool true]) (by simp [results, Tryz.results76, go_sem, q0, q1, q2, q3, q4]) rfl ⟨?_, (below_set5 hbA (Nat.le_refl _) _ _ _ _ _).drew⟩
                rw [HR.out]
                refine ⟨{ sl := st1, xl := xl, sr := false, xr := xr, br := br }, Al, ml, cl, Ar, mr, cr, rfl, fun y hy => ?_⟩
                cases hy
                refine ⟨rfl, ⟨?_, ?_, by omega, by omega⟩, hfl2.less (Nat.le_succ _), hfr2.less (Nat.le_succ _)⟩
                · exact hPA.keep hfl2 (fun k h1 _ => heap_set5 (w := W) (g := w.heap.size) (show k ≠ w.heap.size by omega) _ _ _ _ _) (by simp)
                · exact hPB.keep hfr2 (fun k h1 _ => heap_set5 (w := W) (g := w.heap.size) (show k ≠ w.heap.size by omega) _ _ _ _ _) (by simp)
              · have hR : R = none := by rw [Hrp.out, if_neg (fun h => by have := h.2.2; cases this)]
                have HR := Lib.hid hR
                clear hR Hrp
                refine wp_region_noPanic ?_
                refine wp_region_held_drew (S := (fun V => V.cell? ⟨b1, 0, none⟩ = some (.bool st1) ∧ V.cell? ⟨b1, 1, none⟩ = some (.slice Al ml cl) ∧ V.cell? ⟨b2, 0, none⟩ = some (.bool true) ∧ V.cell? ⟨b2, 1, none⟩ = some (.slice Ar mr cr))) (by kernel_rfl) ⟨l0, l1, m0, m1⟩ (fun hHeld => ?_)
                refine wpAnyH_take (i := 0) (v := .agg #[.bool st1, .slice Al ml cl]) rfl (by kernel_rfl) (by kernel_rfl) (by kernel_rfl) (fun _ _ _ h => h) (.inl ⟨by rfl, fun V hV => by obtain ⟨c0, c1, c2, c3⟩ := hV; go_simp⟩) hHeld ?_
                try simp only [Act.put, List.getElem_toArray, List.getElem_cons_zero, List.setIfInBounds_toArray, List.set_cons_zero, List.set_cons_succ]
                refine wpAnyH_take (i := 1) (v := .agg #[.bool true, .slice Ar mr cr]) rfl (by kernel_rfl) (by kernel_rfl) (by kernel_rfl) (fun _ _ _ h => h) (.inl ⟨by rfl, fun V hV => by obtain ⟨c0, c1, c2, c3⟩ := hV; go_simp⟩) hHeld ?_
                try simp only [Act.put, List.getElem_toArray, List.getElem_cons_zero, List.getElem_cons_succ, List.setIfInBounds_toArray, List.set_cons_zero, List.set_cons_succ]
                refine wpAnyH_take (i := 2) (v := .string ⟨s.toArray⟩) rfl (by kernel_rfl) (by kernel_rfl) (by kernel_rfl) (fun _ _ _ h => h) (.inl ⟨by rfl, fun V hV => by obtain ⟨c0, c1, c2, c3⟩ := hV; go_simp⟩) hHeld ?_
                try simp only [Act.put, List.getElem_toArray, List.getElem_cons_zero, List.getElem_cons_succ, List.setIfInBounds_toArray, List.set_cons_zero, List.set_cons_succ]
                refine wpAnyH_take (i := 3) (v := .int .i64 (pos : Int)) rfl (by kernel_rfl) (by kernel_rfl) (by kernel_rfl) (fun _ _ _ h => h) (.inl ⟨by rfl, fun V hV => by obtain ⟨c0, c1, c2, c3⟩ := hV; go_simp⟩) hHeld ?_
                try simp only [Act.put, List.getElem_toArray, List.getElem_cons_zero, List.getElem_cons_succ, List.setIfInBounds_toArray, List.set_cons_zero, List.set_cons_succ]
                refine wpAnyH_take (i := 4) (v := .int .u8 (s[pos].toNat : Int)) rfl (by kernel_rfl) (by kernel_rfl) (by kernel_rfl) (fun _ _ _ h => h) (.inl ⟨by rfl, fun V hV => by obtain ⟨c0, c1, c2, c3⟩ := hV; go_simp⟩) hHeld ?_
                try simp only [Act.put, List.getElem_toArray, List.getElem_cons_zero, List.getElem_cons_succ, List.setIfInBounds_toArray, List.set_cons_zero, List.set_cons_succ]
                refine wpAnyH_take (i := 5) (v := .bool br) rfl (by kernel_rfl) (by kernel_rfl) (by kernel_rfl) (fun _ _ _ h => h) (.inl ⟨by rfl, fun V hV => by obtain ⟨c0, c1, c2, c3⟩ := hV; go_simp⟩) hHeld ?_
                try simp only [Act.put, List.getElem_toArray, List.getElem_cons_zero, List.getElem_cons_succ, List.setIfInBounds_toArray, List.set_cons_zero, List.set_cons_succ]
                refine wpAnyH_take (i := 6) (v := .agg #[.bool st1, .slice Al ml cl, .bool true, .slice Ar mr cr, .bool br]) rfl (by kernel_rfl) (by kernel_rfl) (by kernel_rfl) (fun _ _ _ h => h) (.inl ⟨by rfl, fun V hV => by obtain ⟨c0, c1, c2, c3⟩ := hV; go_simp⟩) hHeld ?_
                try simp only [Act.put, List.getElem_toArray, List.getElem_cons_zero, List.getElem_cons_succ, List.setIfInBounds_toArray, List.set_cons_zero, List.set_cons_succ]
                refine wpAnyH_take (i := 7) (v := .int .i64 0) rfl (by kernel_rfl) (by kernel_rfl) (by kernel_rfl) (fun _ _ _ h => h) (.inl ⟨by rfl, fun V hV => by obtain ⟨c0, c1, c2, c3⟩ := hV; go_simp⟩) hHeld ?_
                try simp only [Act.put, List.getElem_toArray, List.getElem_cons_zero, List.getElem_cons_succ, List.setIfInBounds_toArray, List.set_cons_zero, List.set_cons_succ]
                refine wpAnyH_take (i := 8) (v := .bool true) rfl (by kernel_rfl) (by kernel_rfl) (by kernel_rfl) (fun _ _ _ h => h) (.inl ⟨by rfl, fun V hV => by obtain ⟨c0, c1, c2, c3⟩ := hV; go_simp⟩) hHeld ?_
                try simp only [Act.put, List.getElem_toArray, List.getElem_cons_zero, List.getElem_cons_succ, List.setIfInBounds_toArray, List.set_cons_zero, List.set_cons_succ]
                refine wpAnyH_take (i := 9) (v := .bool true) rfl (by kernel_rfl) (by kernel_rfl) (by kernel_rfl) (fun _ _ _ h => h) (.inl ⟨by rfl, fun V hV => by obtain ⟨c0, c1, c2, c3⟩ := hV; go_simp⟩) hHeld ?_
                try simp only [Act.put, List.getElem_toArray, List.getElem_cons_zero, List.getElem_cons_succ, List.setIfInBounds_toArray, List.set_cons_zero, List.set_cons_succ]
                refine wpAnyH_take (i := 10) (v := .int .i64 0) rfl (by kernel_rfl) (by kernel_rfl) (by kernel_rfl) (fun _ _ _ h => h) (.inl ⟨by rfl, fun V hV => by obtain ⟨c0, c1, c2, c3⟩ := hV; go_simp⟩) hHeld ?_
                try simp only [Act.put, List.getElem_toArray, List.getElem_cons_zero, List.getElem_cons_succ, List.setIfInBounds_toArray, List.set_cons_zero, List.set_cons_succ]
                refine wpAnyH_take (i := 11) (v := .bool true) rfl (by kernel_rfl) (by kernel_rfl) (by kernel_rfl) (fun _ _ _ h => h) (.inl ⟨by rfl, fun V hV => by obtain ⟨c0, c1, c2, c3⟩ := hV; go_simp⟩) hHeld ?_
                try simp only [Act.put, List.getElem_toArray, List.getElem_cons_zero, List.getElem_cons_succ, List.setIfInBounds_toArray, List.set_cons_zero, List.set_cons_succ]
                refine wpAnyH_take (i := 12) (v := .bool true) rfl (by kernel_rfl) (by kernel_rfl) (by kernel_rfl) (fun _ _ _ h => h) (.inl ⟨by rfl, fun V hV => by obtain ⟨c0, c1, c2, c3⟩ := hV; go_simp⟩) hHeld ?_
                try simp only [Act.put, List.getElem_toArray, List.getElem_cons_zero, List.getElem_cons_succ, List.setIfInBounds_toArray, List.set_cons_zero, List.set_cons_succ]
                refine wpAnyH_take (i := 13) (v := .bool true) rfl (by kernel_rfl) (by kernel_rfl) (by kernel_rfl) (fun _ _ _ h => h) (.inl ⟨by rfl, fun V hV => by obtain ⟨c0, c1, c2, c3⟩ := hV; go_simp⟩) hHeld ?_
                try simp only [Act.put, List.getElem_toArray, List.getElem_cons_zero, List.getElem_cons_succ, List.setIfInBounds_toArray, List.set_cons_zero, List.set_cons_succ]
                refine wpAnyH_take (i := 14) (v := .pointer (some ⟨b2, 0, none⟩)) rfl (by kernel_rfl) (by kernel_rfl) (by kernel_rfl) (fun _ _ _ h => h) (.inl ⟨by rfl, fun V hV => by obtain ⟨c0, c1, c2, c3⟩ := hV; go_simp⟩) hHeld ?_
                try simp only [Act.put, List.getElem_toArray, List.getElem_cons_zero, List.getElem_cons_succ, List.setIfInBounds_toArray, List.set_cons_zero, List.set_cons_succ]
                refine wpAnyH_take (i := 15) (v := .bool true) rfl (by kernel_rfl) (by kernel_rfl) (by kernel_rfl) (fun _ _ _ h => h) (.inl ⟨by rfl, fun V hV => by obtain ⟨c0, c1, c2, c3⟩ := hV; go_simp⟩) hHeld ?_
                try simp only [Act.put, List.getElem_toArray, List.getElem_cons_zero, List.getElem_cons_succ, List.setIfInBounds_toArray, List.set_cons_zero, List.set_cons_succ]
                refine wpAnyH_take (i := 16) (v := .bool false) rfl (by kernel_rfl) (by kernel_rfl) (by kernel_rfl) (fun _ _ _ h => h) (.inl ⟨by rfl, fun V hV => by obtain ⟨c0, c1, c2, c3⟩ := hV; go_simp⟩) hHeld ?_
                try simp only [Act.put, List.getElem_toArray, List.getElem_cons_zero, List.getElem_cons_succ, List.setIfInBounds_toArray, List.set_cons_zero, List.set_cons_succ]
                refine wpAnyH_take (i := 17) (v := .bool false) rfl (by kernel_rfl) (by kernel_rfl) (by kernel_rfl) (fun _ _ _ h => h) (.inl ⟨by rfl, fun V hV => by obtain ⟨c0, c1, c2, c3⟩ := hV; go_simp⟩) hHeld ?_
                try simp only [Act.put, List.getElem_toArray, List.getElem_cons_zero, List.getElem_cons_succ, List.setIfInBounds_toArray, List.set_cons_zero, List.set_cons_succ]
                refine wpAnyH_ready (rs := [18]) (by kernel_rfl) (by simp) ?_
                refine AllReadyH.cons rfl (fun K hK => ?_) AllReadyH.nil
                go_simp
                have hs0 : (((((W.setCell ⟨w.heap.size, 0, none⟩ (.bool st1)).setCell ⟨w.heap.size, 1, none⟩ (.slice Al ml cl)).setCell ⟨w.heap.size, 2, none⟩ (.bool true)).setCell ⟨w.heap.size, 3, none⟩ (.slice Ar mr cr)).setCell ⟨w.heap.size, 4, none⟩ (.bool br)).drew.cell? ⟨b1, 0, none⟩ = some (.bool st1) := (cell_drew _ _).trans ((World.cell?_of_block (a := ⟨b1, 0, none⟩) (heap_set5 hb1n _ _ _ _ _)).trans l0)
                have hs1 : (((((W.setCell ⟨w.heap.size, 0, none⟩ (.bool st1)).setCell ⟨w.heap.size, 1, none⟩ (.slice Al ml cl)).setCell ⟨w.heap.size, 2, none⟩ (.bool true)).setCell ⟨w.heap.size, 3, none⟩ (.slice Ar mr cr)).setCell ⟨w.heap.size, 4, none⟩ (.bool br)).drew.cell? ⟨b1, 1, none⟩ = some (.slice Al ml cl) := (cell_drew _ _).trans ((World.cell?_of_block (a := ⟨b1, 1, none⟩) (heap_set5 hb1n _ _ _ _ _)).trans l1)
                have hs2 : (((((W.setCell ⟨w.heap.size, 0, none⟩ (.bool st1)).setCell ⟨w.heap.size, 1, none⟩ (.slice Al ml cl)).setCell ⟨w.heap.size, 2, none⟩ (.bool true)).setCell ⟨w.heap.size, 3, none⟩ (.slice Ar mr cr)).setCell ⟨w.heap.size, 4, none⟩ (.bool br)).drew.cell? ⟨b2, 0, none⟩ = some (.bool true) := (cell_drew _ _).trans ((World.cell?_of_block (a := ⟨b2, 0, none⟩) (heap_set5 hb2n _ _ _ _ _)).trans m0)
                have hs3 : (((((W.setCell ⟨w.heap.size, 0, none⟩ (.bool st1)).setCell ⟨w.heap.size, 1, none⟩ (.slice Al ml cl)).setCell ⟨w.heap.size, 2, none⟩ (.bool true)).setCell ⟨w.heap.size, 3, none⟩ (.slice Ar mr cr)).setCell ⟨w.heap.size, 4, none⟩ (.bool br)).drew.cell? ⟨b2, 1, none⟩ = some (.slice Ar mr cr) := (cell_drew _ _).trans ((World.cell?_of_block (a := ⟨b2, 1, none⟩) (heap_set5 hb2n _ _ _ _ _)).trans m1)
                refine hK.out _ _ ⟨hs0, hs1, hs2, hs3⟩ (fun hHeld => ?_)
                clear hK K
                try simp only [Act.put, List.getElem_toArray, List.getElem_cons_zero, List.getElem_cons_succ, List.setIfInBounds_toArray, List.set_cons_zero, List.set_cons_succ]
                refine wpAnyH_take (i := 19) (v := .bool false) rfl (by kernel_rfl) (by kernel_rfl) (by kernel_rfl) (fun _ _ _ h => h) (.inl ⟨by rfl, fun V hV => by obtain ⟨c0, c1, c2, c3⟩ := hV; go_simp⟩) hHeld ?_
                try simp only [Act.put, List.getElem_toArray, List.getElem_cons_zero, List.getElem_cons_succ, List.setIfInBounds_toArray, List.set_cons_zero, List.set_cons_succ]
                refine wpAnyH_done (by kernel_rfl) ?_ _
                refine NoPanic.normal ?_
                go_wp2_with fail
                obtain ⟨q0, q1, q2, q3, q4⟩ := set5_cells z8 (.bool st1) (.slice Al ml cl) (.bool true) (.slice Ar mr cr) (.bool br)
                refine bodyPost_ret (v := .tuple #[.agg #[.bool st1, .slice Al ml cl, .bool true, .slice Ar mr cr, .bool br], .bool false]) (by simp [results, Tryz.results76, go_sem, q0, q1, q2, q3, q4]) rfl ⟨?_, (below_set5 hbA (Nat.le_refl _) _ _ _ _ _).drew⟩
                rw [HR.out]
                exact ⟨{ sl := st1, xl := xl, sr := true, xr := xr, br := br }, Al, ml, cl, Ar, mr, cr, rfl, fun y hy => by cases hy⟩
            · have hR : R = none := by rw [Hrp.out, if_neg (fun h => hg2 h.2.1)]
              have HR := Lib.hid hR
              subst hg1
              have gg2 : (e2 == 0) = false := by rw [beq_eq_false_iff_ne]; exact hg2
              clear hg2
              clear hR Hrp
              refine wp_region_noPanic ?_
              refine wp_region_held_drew (S := (fun V => V.cell? ⟨b1, 0, none⟩ = some (.bool st1) ∧ V.cell? ⟨b1, 1, none⟩ = some (.slice Al ml cl) ∧ V.cell? ⟨b2, 0, none⟩ = some (.bool st2) ∧ V.cell? ⟨b2, 1, none⟩ = some (.slice Ar mr cr))) (by kernel_rfl) ⟨l0, l1, m0, m1⟩ (fun hHeld => ?_)
              refine wpAnyH_take (i := 0) (v := .agg #[.bool st1, .slice Al ml cl]) rfl (by kernel_rfl) (by kernel_rfl) (by kernel_rfl) (fun _ _ _ h => h) (.inl ⟨by rfl, fun V hV => by obtain ⟨c0, c1, c2, c3⟩ := hV; go_simp⟩) hHeld ?_
              try simp only [Act.put, List.getElem_toArray, List.getElem_cons_zero, List.setIfInBounds_toArray, List.set_cons_zero, List.set_cons_succ]
              refine wpAnyH_take (i := 1) (v := .agg #[.bool st2, .slice Ar mr cr]) rfl (by kernel_rfl) (by kernel_rfl) (by kernel_rfl) (fun _ _ _ h => h) (.inl ⟨by rfl, fun V hV => by obtain ⟨c0, c1, c2, c3⟩ := hV; go_simp⟩) hHeld ?_
              try simp only [Act.put, List.getElem_toArray, List.getElem_cons_zero, List.getElem_cons_succ, List.setIfInBounds_toArray, List.set_cons_zero, List.set_cons_succ]
              refine wpAnyH_take (i := 2) (v := .string ⟨s.toArray⟩) rfl (by kernel_rfl) (by kernel_rfl) (by kernel_rfl) (fun _ _ _ h => h) (.inl ⟨by rfl, fun V hV => by obtain ⟨c0, c1, c2, c3⟩ := hV; go_simp⟩) hHeld ?_
              try simp only [Act.put, List.getElem_toArray, List.getElem_cons_zero, List.getElem_cons_succ, List.setIfInBounds_toArray, List.set_cons_zero, List.set_cons_succ]
              refine wpAnyH_take (i := 3) (v := .int .i64 (pos : Int)) rfl (by kernel_rfl) (by kernel_rfl) (by kernel_rfl) (fun _ _ _ h => h) (.inl ⟨by rfl, fun V hV => by obtain ⟨c0, c1, c2, c3⟩ := hV; go_simp⟩) hHeld ?_
              try simp only [Act.put, List.getElem_toArray, List.getElem_cons_zero, List.getElem_cons_succ, List.setIfInBounds_toArray, List.set_cons_zero, List.set_cons_succ]
              refine wpAnyH_take (i := 4) (v := .int .u8 (s[pos].toNat : Int)) rfl (by kernel_rfl) (by kernel_rfl) (by kernel_rfl) (fun _ _ _ h => h) (.inl ⟨by rfl, fun V hV => by obtain ⟨c0, c1, c2, c3⟩ := hV; go_simp⟩) hHeld ?_
              try simp only [Act.put, List.getElem_toArray, List.getElem_cons_zero, List.getElem_cons_succ, List.setIfInBounds_toArray, List.set_cons_zero, List.set_cons_succ]
              refine wpAnyH_take (i := 5) (v := .bool br) rfl (by kernel_rfl) (by kernel_rfl) (by kernel_rfl) (fun _ _ _ h => h) (.inl ⟨by rfl, fun V hV => by obtain ⟨c0, c1, c2, c3⟩ := hV; go_simp⟩) hHeld ?_
              try simp only [Act.put, List.getElem_toArray, List.getElem_cons_zero, List.getElem_cons_succ, List.setIfInBounds_toArray, List.set_cons_zero, List.set_cons_succ]
              refine wpAnyH_take (i := 6) (v := .agg #[.bool st1, .slice Al ml cl, .bool st2, .slice Ar mr cr, .bool br]) rfl (by kernel_rfl) (by kernel_rfl) (by kernel_rfl) (fun _ _ _ h => h) (.inl ⟨by rfl, fun V hV => by obtain ⟨c0, c1, c2, c3⟩ := hV; go_simp⟩) hHeld ?_
              try simp only [Act.put, List.getElem_toArray, List.getElem_cons_zero, List.getElem_cons_succ, List.setIfInBounds_toArray, List.set_cons_zero, List.set_cons_succ]
              refine wpAnyH_take (i := 7) (v := .int .i64 0) rfl (by kernel_rfl) (by kernel_rfl) (by kernel_rfl) (fun _ _ _ h => h) (.inl ⟨by rfl, fun V hV => by obtain ⟨c0, c1, c2, c3⟩ := hV; go_simp⟩) hHeld ?_
              try simp only [Act.put, List.getElem_toArray, List.getElem_cons_zero, List.getElem_cons_succ, List.setIfInBounds_toArray, List.set_cons_zero, List.set_cons_succ]
              refine wpAnyH_take (i := 8) (v := .bool true) rfl (by kernel_rfl) (by kernel_rfl) (by kernel_rfl) (fun _ _ _ h => h) (.inl ⟨by rfl, fun V hV => by obtain ⟨c0, c1, c2, c3⟩ := hV; go_simp⟩) hHeld ?_
              try simp only [Act.put, List.getElem_toArray, List.getElem_cons_zero, List.getElem_cons_succ, List.setIfInBounds_toArray, List.set_cons_zero, List.set_cons_succ]
              refine wpAnyH_take (i := 9) (v := .bool true) rfl (by kernel_rfl) (by kernel_rfl) (by kernel_rfl) (fun _ _ _ h => h) (.inl ⟨by rfl, fun V hV => by obtain ⟨c0, c1, c2, c3⟩ := hV; go_simp⟩) hHeld ?_
              try simp only [Act.put, List.getElem_toArray, List.getElem_cons_zero, List.getElem_cons_succ, List.setIfInBounds_toArray, List.set_cons_zero, List.set_cons_succ]
              refine wpAnyH_take (i := 10) (v := .int .i64 e2) rfl (by kernel_rfl) (by kernel_rfl) (by kernel_rfl) (fun _ _ _ h => h) (.inl ⟨by rfl, fun V hV => by obtain ⟨c0, c1, c2, c3⟩ := hV; go_simp⟩) hHeld ?_
              try simp only [Act.put, List.getElem_toArray, List.getElem_cons_zero, List.getElem_cons_succ, List.setIfInBounds_toArray, List.set_cons_zero, List.set_cons_succ]
              refine wpAnyH_take (i := 11) (v := .bool false) rfl (by kernel_rfl) (by kernel_rfl) (by kernel_rfl) (fun _ _ _ h => h) (.inl ⟨by rfl, fun V hV => by obtain ⟨c0, c1, c2, c3⟩ := hV; go_simp⟩) hHeld ?_
              try simp only [Act.put, List.getElem_toArray, List.getElem_cons_zero, List.getElem_cons_succ, List.setIfInBounds_toArray, List.set_cons_zero, List.set_cons_succ]
              refine wpAnyH_take (i := 12) (v := .bool false) rfl (by kernel_rfl) (by kernel_rfl) (by kernel_rfl) (fun _ _ _ h => h) (.inl ⟨by rfl, fun V hV => by obtain ⟨c0, c1, c2, c3⟩ := hV; go_simp⟩) hHeld ?_
              try simp only [Act.put, List.getElem_toArray, List.getElem_cons_zero, List.getElem_cons_succ, List.setIfInBounds_toArray, List.set_cons_zero, List.set_cons_succ]
              refine wpAnyH_take (i := 13) (v := .bool false) rfl (by kernel_rfl) (by kernel_rfl) (by kernel_rfl) (fun _ _ _ h => h) (.inl ⟨by rfl, fun V hV => by obtain ⟨c0, c1, c2, c3⟩ := hV; go_simp⟩) hHeld ?_
              try simp only [Act.put, List.getElem_toArray, List.getElem_cons_zero, List.getElem_cons_succ, List.setIfInBounds_toArray, List.set_cons_zero, List.set_cons_succ]
              refine wpAnyH_take (i := 14) (v := undef) rfl (by kernel_rfl) (by kernel_rfl) (by kernel_rfl) (fun _ _ _ h => h) (.inr ⟨by rfl, rfl⟩) hHeld ?_
              try simp only [Act.put, List.getElem_toArray, List.getElem_cons_zero, List.getElem_cons_succ, List.setIfInBounds_toArray, List.set_cons_zero, List.set_cons_succ]
              refine wpAnyH_take (i := 15) (v := undef) rfl (by kernel_rfl) (by kernel_rfl) (by kernel_rfl) (fun _ _ _ h => h) (.inr ⟨by rfl, rfl⟩) hHeld ?_
              try simp only [Act.put, List.getElem_toArray, List.getElem_cons_zero, List.getElem_cons_succ, List.setIfInBounds_toArray, List.set_cons_zero, List.set_cons_succ]
              refine wpAnyH_take (i := 16) (v := undef) rfl (by kernel_rfl) (by kernel_rfl) (by kernel_rfl) (fun _ _ _ h => h) (.inr ⟨by rfl, rfl⟩) hHeld ?_
              try simp only [Act.put, List.getElem_toArray, List.getElem_cons_zero, List.getElem_cons_succ, List.setIfInBounds_toArray, List.set_cons_zero, List.set_cons_succ]
              refine wpAnyH_take (i := 17) (v := .bool false) rfl (by kernel_rfl) (by kernel_rfl) (by kernel_rfl) (fun _ _ _ h => h) (.inl ⟨by rfl, fun V hV => by obtain ⟨c0, c1, c2, c3⟩ := hV; go_simp⟩) hHeld ?_
              try simp only [Act.put, List.getElem_toArray, List.getElem_cons_zero, List.getElem_cons_succ, List.setIfInBounds_toArray, List.set_cons_zero, List.set_cons_succ]
              refine wpAnyH_ready (rs := [18]) (by kernel_rfl) (by simp) ?_
              refine AllReadyH.cons rfl (fun K hK => ?_) AllReadyH.nil
              go_simp
              have hs0 : (((((W.setCell ⟨w.heap.size, 0, none⟩ (.bool st1)).setCell ⟨w.heap.size, 1, none⟩ (.slice Al ml cl)).setCell ⟨w.heap.size, 2, none⟩ (.bool st2)).setCell ⟨w.heap.size, 3, none⟩ (.slice Ar mr cr)).setCell ⟨w.heap.size, 4, none⟩ (.bool br)).drew.cell? ⟨b1, 0, none⟩ = some (.bool st1) := (cell_drew _ _).trans ((World.cell?_of_block (a := ⟨b1, 0, none⟩) (heap_set5 hb1n _ _ _ _ _)).trans l0)
              have hs1 : (((((W.setCell ⟨w.heap.size, 0, none⟩ (.bool st1)).setCell ⟨w.heap.size, 1, none⟩ (.slice Al ml cl)).setCell ⟨w.heap.size, 2, none⟩ (.bool st2)).setCell ⟨w.heap.size, 3, none⟩ (.slice Ar mr cr)).setCell ⟨w.heap.size, 4, none⟩ (.bool br)).drew.cell? ⟨b1, 1, none⟩ = some (.slice Al ml cl) := (cell_drew _ _).trans ((World.cell?_of_block (a := ⟨b1, 1, none⟩) (heap_set5 hb1n _ _ _ _ _)).trans l1)
              have hs2 : (((((W.setCell ⟨w.heap.size, 0, none⟩ (.bool st1)).setCell ⟨w.heap.size, 1, none⟩ (.slice Al ml cl)).setCell ⟨w.heap.size, 2, none⟩ (.bool st2)).setCell ⟨w.heap.size, 3, none⟩ (.slice Ar mr cr)).setCell ⟨w.heap.size, 4, none⟩ (.bool br)).drew.cell? ⟨b2, 0, none⟩ = some (.bool st2) := (cell_drew _ _).trans ((World.cell?_of_block (a := ⟨b2, 0, none⟩) (heap_set5 hb2n _ _ _ _ _)).trans m0)
              have hs3 : (((((W.setCell ⟨w.heap.size, 0, none⟩ (.bool st1)).setCell ⟨w.heap.size, 1, none⟩ (.slice Al ml cl)).setCell ⟨w.heap.size, 2, none⟩ (.bool st2)).setCell ⟨w.heap.size, 3, none⟩ (.slice Ar mr cr)).setCell ⟨w.heap.size, 4, none⟩ (.bool br)).drew.cell? ⟨b2, 1, none⟩ = some (.slice Ar mr cr) := (cell_drew _ _).trans ((World.cell?_of_block (a := ⟨b2, 1, none⟩) (heap_set5 hb2n _ _ _ _ _)).trans m1)
              refine hK.out _ _ ⟨hs0, hs1, hs2, hs3⟩ (fun hHeld => ?_)
              clear hK K
              try simp only [Act.put, List.getElem_toArray, List.getElem_cons_zero, List.getElem_cons_succ, List.setIfInBounds_toArray, List.set_cons_zero, List.set_cons_succ]
              refine wpAnyH_take (i := 19) (v := .bool false) rfl (by kernel_rfl) (by kernel_rfl) (by kernel_rfl) (fun _ _ _ h => h) (.inl ⟨by rfl, fun V hV => by obtain ⟨c0, c1, c2, c3⟩ := hV; go_simp⟩) hHeld ?_
              try simp only [Act.put, List.getElem_toArray, List.getElem_cons_zero, List.getElem_cons_succ, List.setIfInBounds_toArray, List.set_cons_zero, List.set_cons_succ]
              refine wpAnyH_done (by kernel_rfl) ?_ _
              refine NoPanic.normal ?_
              go_wp2_with fail
              obtain ⟨q0, q1, q2, q3, q4⟩ := set5_cells z8 (.bool st1) (.slice Al ml cl) (.bool st2) (.slice Ar mr cr) (.bool br)
              refine bodyPost_ret (v := .tuple #[.agg #[.bool st1, .slice Al ml cl, .bool st2, .slice Ar mr cr, .bool br], .bool false]) (by simp [results, Tryz.results76, go_sem, q0, q1, q2, q3, q4]) rfl ⟨?_, (below_set5 hbA (Nat.le_refl _) _ _ _ _ _).drew⟩
              rw [HR.out]
              exact ⟨{ sl := st1, xl := xl, sr := st2, xr := xr, br := br }, Al, ml, cl, Ar, mr, cr, rfl, fun y hy => by cases hy⟩
          · have hR : R = none := by rw [Hrp.out, if_neg (fun h => hg1 h.1)]
            have HR := Lib.hid hR
            have gg1 : (e1 == 0) = false := by rw [beq_eq_false_iff_ne]; exact hg1
            clear hg1
            clear hR Hrp
            refine wp_region_noPanic ?_
            refine wp_region_held_drew (S := (fun V => V.cell? ⟨b1, 0, none⟩ = some (.bool st1) ∧ V.cell? ⟨b1, 1, none⟩ = some (.slice Al ml cl) ∧ V.cell? ⟨b2, 0, none⟩ = some (.bool st2) ∧ V.cell? ⟨b2, 1, none⟩ = some (.slice Ar mr cr))) (by kernel_rfl) ⟨l0, l1, m0, m1⟩ (fun hHeld => ?_)
            refine wpAnyH_take (i := 0) (v := .agg #[.bool st1, .slice Al ml cl]) rfl (by kernel_rfl) (by kernel_rfl) (by kernel_rfl) (fun _ _ _ h => h) (.inl ⟨by rfl, fun V hV => by obtain ⟨c0, c1, c2, c3⟩ := hV; go_simp⟩) hHeld ?_
            try simp only [Act.put, List.getElem_toArray, List.getElem_cons_zero, List.setIfInBounds_toArray, List.set_cons_zero, List.set_cons_succ]
            refine wpAnyH_take (i := 1) (v := .agg #[.bool st2, .slice Ar mr cr]) rfl (by kernel_rfl) (by kernel_rfl) (by kernel_rfl) (fun _ _ _ h => h) (.inl ⟨by rfl, fun V hV => by obtain ⟨c0, c1, c2, c3⟩ := hV; go_simp⟩) hHeld ?_
            try simp only [Act.put, List.getElem_toArray, List.getElem_cons_zero, List.getElem_cons_succ, List.setIfInBounds_toArray, List.set_cons_zero, List.set_cons_succ]
            refine wpAnyH_take (i := 2) (v := .string ⟨s.toArray⟩) rfl (by kernel_rfl) (by kernel_rfl) (by kernel_rfl) (fun _ _ _ h => h) (.inl ⟨by rfl, fun V hV => by obtain ⟨c0, c1, c2, c3⟩ := hV; go_simp⟩) hHeld ?_
            try simp only [Act.put, List.getElem_toArray, List.getElem_cons_zero, List.getElem_cons_succ, List.setIfInBounds_toArray, List.set_cons_zero, List.set_cons_succ]
            refine wpAnyH_take (i := 3) (v := .int .i64 (pos : Int)) rfl (by kernel_rfl) (by kernel_rfl) (by kernel_rfl) (fun _ _ _ h => h) (.inl ⟨by rfl, fun V hV => by obtain ⟨c0, c1, c2, c3⟩ := hV; go_simp⟩) hHeld ?_
            try simp only [Act.put, List.getElem_toArray, List.getElem_cons_zero, List.getElem_cons_succ, List.setIfInBounds_toArray, List.set_cons_zero, List.set_cons_succ]
            refine wpAnyH_take (i := 4) (v := .int .u8 (s[pos].toNat : Int)) rfl (by kernel_rfl) (by kernel_rfl) (by kernel_rfl) (fun _ _ _ h => h) (.inl ⟨by rfl, fun V hV => by obtain ⟨c0, c1, c2, c3⟩ := hV; go_simp⟩) hHeld ?_
            try simp only [Act.put, List.getElem_toArray, List.getElem_cons_zero, List.getElem_cons_succ, List.setIfInBounds_toArray, List.set_cons_zero, List.set_cons_succ]
            refine wpAnyH_take (i := 5) (v := .bool br) rfl (by kernel_rfl) (by kernel_rfl) (by kernel_rfl) (fun _ _ _ h => h) (.inl ⟨by rfl, fun V hV => by obtain ⟨c0, c1, c2, c3⟩ := hV; go_simp⟩) hHeld ?_
            try simp only [Act.put, List.getElem_toArray, List.getElem_cons_zero, List.getElem_cons_succ, List.setIfInBounds_toArray, List.set_cons_zero, List.set_cons_succ]
            refine wpAnyH_take (i := 6) (v := .agg #[.bool st1, .slice Al ml cl, .bool st2, .slice Ar mr cr, .bool br]) rfl (by kernel_rfl) (by kernel_rfl) (by kernel_rfl) (fun _ _ _ h => h) (.inl ⟨by rfl, fun V hV => by obtain ⟨c0, c1, c2, c3⟩ := hV; go_simp⟩) hHeld ?_
            try simp only [Act.put, List.getElem_toArray, List.getElem_cons_zero, List.getElem_cons_succ, List.setIfInBounds_toArray, List.set_cons_zero, List.set_cons_succ]
            refine wpAnyH_take (i := 7) (v := .int .i64 e1) rfl (by kernel_rfl) (by kernel_rfl) (by kernel_rfl) (fun _ _ _ h => h) (.inl ⟨by rfl, fun V hV => by obtain ⟨c0, c1, c2, c3⟩ := hV; go_simp⟩) hHeld ?_
            try simp only [Act.put, List.getElem_toArray, List.getElem_cons_zero, List.getElem_cons_succ, List.setIfInBounds_toArray, List.set_cons_zero, List.set_cons_succ]
            refine wpAnyH_take (i := 8) (v := .bool false) rfl (by kernel_rfl) (by kernel_rfl) (by kernel_rfl) (fun _ _ _ h => h) (.inl ⟨by rfl, fun V hV => by obtain ⟨c0, c1, c2, c3⟩ := hV; go_simp⟩) hHeld ?_
            try simp only [Act.put, List.getElem_toArray, List.getElem_cons_zero, List.getElem_cons_succ, List.setIfInBounds_toArray, List.set_cons_zero, List.set_cons_succ]
            refine wpAnyH_take (i := 9) (v := .bool false) rfl (by kernel_rfl) (by kernel_rfl) (by kernel_rfl) (fun _ _ _ h => h) (.inl ⟨by rfl, fun V hV => by obtain ⟨c0, c1, c2, c3⟩ := hV; go_simp⟩) hHeld ?_
            try simp only [Act.put, List.getElem_toArray, List.getElem_cons_zero, List.getElem_cons_succ, List.setIfInBounds_toArray, List.set_cons_zero, List.set_cons_succ]
            refine wpAnyH_take (i := 10) (v := undef) rfl (by kernel_rfl) (by kernel_rfl) (by kernel_rfl) (fun _ _ _ h => h) (.inr ⟨by rfl, rfl⟩) hHeld ?_
            try simp only [Act.put, List.getElem_toArray, List.getElem_cons_zero, List.getElem_cons_succ, List.setIfInBounds_toArray, List.set_cons_zero, List.set_cons_succ]
            refine wpAnyH_take (i := 11) (v := undef) rfl (by kernel_rfl) (by kernel_rfl) (by kernel_rfl) (fun _ _ _ h => h) (.inr ⟨by rfl, rfl⟩) hHeld ?_
            try simp only [Act.put, List.getElem_toArray, List.getElem_cons_zero, List.getElem_cons_succ, List.setIfInBounds_toArray, List.set_cons_zero, List.set_cons_succ]
            refine wpAnyH_take (i := 12) (v := .bool false) rfl (by kernel_rfl) (by kernel_rfl) (by kernel_rfl) (fun _ _ _ h => h) (.inl ⟨by rfl, fun V hV => by obtain ⟨c0, c1, c2, c3⟩ := hV; go_simp⟩) hHeld ?_
            try simp only [Act.put, List.getElem_toArray, List.getElem_cons_zero, List.getElem_cons_succ, List.setIfInBounds_toArray, List.set_cons_zero, List.set_cons_succ]
            refine wpAnyH_take (i := 13) (v := .bool false) rfl (by kernel_rfl) (by kernel_rfl) (by kernel_rfl) (fun _ _ _ h => h) (.inl ⟨by rfl, fun V hV => by obtain ⟨c0, c1, c2, c3⟩ := hV; go_simp⟩) hHeld ?_
            try simp only [Act.put, List.getElem_toArray, List.getElem_cons_zero, List.getElem_cons_succ, List.setIfInBounds_toArray, List.set_cons_zero, List.set_cons_succ]
            refine wpAnyH_take (i := 14) (v := undef) rfl (by kernel_rfl) (by kernel_rfl) (by kernel_rfl) (fun _ _ _ h => h) (.inr ⟨by rfl, rfl⟩) hHeld ?_
            try simp only [Act.put, List.getElem_toArray, List.getElem_cons_zero, List.getElem_cons_succ, List.setIfInBounds_toArray, List.set_cons_zero, List.set_cons_succ]
            refine wpAnyH_take (i := 15) (v := undef) rfl (by kernel_rfl) (by kernel_rfl) (by kernel_rfl) (fun _ _ _ h => h) (.inr ⟨by rfl, rfl⟩) hHeld ?_
            try simp only [Act.put, List.getElem_toArray, List.getElem_cons_zero, List.getElem_cons_succ, List.setIfInBounds_toArray, List.set_cons_zero, List.set_cons_succ]
            refine wpAnyH_take (i := 16) (v := undef) rfl (by kernel_rfl) (by kernel_rfl) (by kernel_rfl) (fun _ _ _ h => h) (.inr ⟨by rfl, rfl⟩) hHeld ?_
            try simp only [Act.put, List.getElem_toArray, List.getElem_cons_zero, List.getElem_cons_succ, List.setIfInBounds_toArray, List.set_cons_zero, List.set_cons_succ]
            refine wpAnyH_take (i := 17) (v := .bool false) rfl (by kernel_rfl) (by kernel_rfl) (by kernel_rfl) (fun _ _ _ h => h) (.inl ⟨by rfl, fun V hV => by obtain ⟨c0, c1, c2, c3⟩ := hV; go_simp⟩) hHeld ?_
            try simp only [Act.put, List.getElem_toArray, List.getElem_cons_zero, List.getElem_cons_succ, List.setIfInBounds_toArray, List.set_cons_zero, List.set_cons_succ]
            refine wpAnyH_ready (rs := [18]) (by kernel_rfl) (by simp) ?_
            refine AllReadyH.cons rfl (fun K hK => ?_) AllReadyH.nil
            go_simp
            have hs0 : (((((W.setCell ⟨w.heap.size, 0, none⟩ (.bool st1)).setCell ⟨w.heap.size, 1, none⟩ (.slice Al ml cl)).setCell ⟨w.heap.size, 2, none⟩ (.bool st2)).setCell ⟨w.heap.size, 3, none⟩ (.slice Ar mr cr)).setCell ⟨w.heap.size, 4, none⟩ (.bool br)).drew.cell? ⟨b1, 0, none⟩ = some (.bool st1) := (cell_drew _ _).trans ((World.cell?_of_block (a := ⟨b1, 0, none⟩) (heap_set5 hb1n _ _ _ _ _)).trans l0)
            have hs1 : (((((W.setCell ⟨w.heap.size, 0, none⟩ (.bool st1)).setCell ⟨w.heap.size, 1, none⟩ (.slice Al ml cl)).setCell ⟨w.heap.size, 2, none⟩ (.bool st2)).setCell ⟨w.heap.size, 3, none⟩ (.slice Ar mr cr)).setCell ⟨w.heap.size, 4, none⟩ (.bool br)).drew.cell? ⟨b1, 1, none⟩ = some (.slice Al ml cl) := (cell_drew _ _).trans ((World.cell?_of_block (a := ⟨b1, 1, none⟩) (heap_set5 hb1n _ _ _ _ _)).trans l1)
            have hs2 : (((((W.setCell ⟨w.heap.size, 0, none⟩ (.bool st1)).setCell ⟨w.heap.size, 1, none⟩ (.slice Al ml cl)).setCell ⟨w.heap.size, 2, none⟩ (.bool st2)).setCell ⟨w.heap.size, 3, none⟩ (.slice Ar mr cr)).setCell ⟨w.heap.size, 4, none⟩ (.bool br)).drew.cell? ⟨b2, 0, none⟩ = some (.bool st2) := (cell_drew _ _).trans ((World.cell?_of_block (a := ⟨b2, 0, none⟩) (heap_set5 hb2n _ _ _ _ _)).trans m0)
            have hs3 : (((((W.setCell ⟨w.heap.size, 0, none⟩ (.bool st1)).setCell ⟨w.heap.size, 1, none⟩ (.slice Al ml cl)).setCell ⟨w.heap.size, 2, none⟩ (.bool st2)).setCell ⟨w.heap.size, 3, none⟩ (.slice Ar mr cr)).setCell ⟨w.heap.size, 4, none⟩ (.bool br)).drew.cell? ⟨b2, 1, none⟩ = some (.slice Ar mr cr) := (cell_drew _ _).trans ((World.cell?_of_block (a := ⟨b2, 1, none⟩) (heap_set5 hb2n _ _ _ _ _)).trans m1)
            refine hK.out _ _ ⟨hs0, hs1, hs2, hs3⟩ (fun hHeld => ?_)
            clear hK K
            try simp only [Act.put, List.getElem_toArray, List.getElem_cons_zero, List.getElem_cons_succ, List.setIfInBounds_toArray, List.set_cons_zero, List.set_cons_succ]
            refine wpAnyH_take (i := 19) (v := .bool false) rfl (by kernel_rfl) (by kernel_rfl) (by kernel_rfl) (fun _ _ _ h => h) (.inl ⟨by rfl, fun V hV => by obtain ⟨c0, c1, c2, c3⟩ := hV; go_simp⟩) hHeld ?_
            try simp only [Act.put, List.getElem_toArray, List.getElem_cons_zero, List.getElem_cons_succ, List.setIfInBounds_toArray, List.set_cons_zero, List.set_cons_succ]
            refine wpAnyH_done (by kernel_rfl) ?_ _
            refine NoPanic.normal ?_
            go_wp2_with fail
            obtain ⟨q0, q1, q2, q3, q4⟩ := set5_cells z8 (.bool st1) (.slice Al ml cl) (.bool st2) (.slice Ar mr cr) (.bool br)
            refine bodyPost_ret (v := .tuple #[.agg #[.bool st1, .slice Al ml cl, .bool st2, .slice Ar mr cr, .bool br], .bool false]) (by simp [results, Tryz.results76, go_sem, q0, q1, q2, q3, q4]) rfl ⟨?_, (below_set5 hbA (Nat.le_refl _) _ _ _ _ _).drew⟩
            rw [HR.out]
            exact ⟨{ sl := st1, xl := xl, sr := st2, xr := xr, br := br }, Al, ml, cl, Ar, mr, cr, rfl, fun y hy => by cases hy⟩

      · have hm1 : s[pos] ≠ 43 := fun h => hm (.inl h)
        have hm2 : s[pos] ≠ 47 := fun h => hm (.inr h)
        have hno2 := noMark_next hlt hno hm1 hm2
        have y1 : ((s[pos].toNat : Int) != 43) = true := by
          rw [bne_iff_ne]; intro h; exact hm1 (UInt8.toNat.inj (by show _ = 43; omega))
        have y2 : ((s[pos].toNat : Int) != 47) = true := by
          rw [bne_iff_ne]; intro h; exact hm2 (UInt8.toNat.inj (by show _ = 47; omega))
        have Hno2 := Lib.hid hno2
        clear hm hm1 hm2 hno hno2
        go_wp2_with fail
        go_round
        case rel => exact ⟨pos + 1, by omega, by go_num, Hno2.out⟩
        case measure => simp [RowKit.intOf]; omega
    · have hmn : R = none := by
        rw [← HRe.out, ruleP, markI_none s (by rw [List.take_of_length_le hge] at hno; exact hno)]
      have HR := Lib.hid hmn
      clear hmn hno
      have q0 : (w.alloc (.cells zeroR 99)).cell? ⟨w.heap.size, 0, none⟩ = some (.bool false) := by rw [cell_blk z0]; rfl
      have q1 : (w.alloc (.cells zeroR 99)).cell? ⟨w.heap.size, 1, none⟩ = some (.slice none 0 0) := by rw [cell_blk z0]; rfl
      have q2 : (w.alloc (.cells zeroR 99)).cell? ⟨w.heap.size, 2, none⟩ = some (.bool false) := by rw [cell_blk z0]; rfl
      have q3 : (w.alloc (.cells zeroR 99)).cell? ⟨w.heap.size, 3, none⟩ = some (.slice none 0 0) := by rw [cell_blk z0]; rfl
      have q4 : (w.alloc (.cells zeroR 99)).cell? ⟨w.heap.size, 4, none⟩ = some (.bool false) := by rw [cell_blk z0]; rfl
      go_wp2_with fail
      refine bodyPost_ret (v := .tuple #[.agg #[.bool false, .slice none 0 0, .bool false, .slice none 0 0, .bool false], .bool false]) (by simp [results, Tryz.results76, go_sem, q0, q1, q2, q3, q4]) rfl ⟨?_, hb0⟩
      rw [HR.out]
      exact ⟨{ sl := false, xl := [], sr := false, xr := [], br := false }, none, 0, 0, none, 0, 0, rfl, fun y hy => by cases hy⟩
end Go.Vir
