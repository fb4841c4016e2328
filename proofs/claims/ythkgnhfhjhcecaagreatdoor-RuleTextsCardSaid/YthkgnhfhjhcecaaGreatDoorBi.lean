/- Joined texts: RlR, Rvs, FwR, SmR. -/
import Derived.Test.YthkgnhfhjhcecaaGreatDoorBh
import Derived.Test.YthkgnhfhjhcecaaGreatDoorBf
import Derived.Test.YthkgnhfhjhcecaaGreatDoorBg
import Derived.Deep.RegionHeld3
import Derived.Maps.AppendAt
/- reader.rule: the rule of a line. -/
namespace Go.Vir
open Go Go.RowKit Go.Proofs Go.Shelf
attribute [local go_sem] Oper.semAt_some

/-- What lies in a block that was not there before. -/
def Fresh (B0 : Nat) (A : Option Addr) (n : Nat) : Prop := 0 < n → ∃ b o, A = some ⟨b, o, none⟩ ∧ B0 ≤ b
theorem Fresh.less {B0 B1 : Nat} {A : Option Addr} {n : Nat} (h : Fresh B1 A n) (hB : B0 ≤ B1) : Fresh B0 A n := fun hn => (h hn).imp fun _ ⟨o, e, hb⟩ => ⟨o, e, Nat.le_trans hB hb⟩
theorem Prs.keep {w w' : World} {B B' n F : Nat} {A : Option Addr} {ps : List (Int × Int)} (h : Prs w B A n ps) (hf : Fresh F A n) (hk : ∀ k, F ≤ k → k < B → w'.heap[k]? = w.heap[k]?) (hB : B ≤ B') : Prs w' B' A n ps :=
  ⟨h.len, fun hn => by
    obtain ⟨b, o, e, hlt, hc⟩ := h.at_ hn
    obtain ⟨b', o', e', hF⟩ := hf hn
    rw [e] at e'
    obtain ⟨rfl, rfl⟩ : b = b' ∧ o = o' := by simpa using e'
    exact ⟨b, o, e, by omega, fun j hj => ⟨(World.cell?_of_block (a := ⟨b, o + j * 2, none⟩) (hk b hF hlt)).trans (hc j hj).1, (World.cell?_of_block (a := ⟨b, o + j * 2 + 1, none⟩) (hk b hF hlt)).trans (hc j hj).2⟩⟩⟩

/-- How a line's rule ends. -/
def RuleEnd (B0 : Nat) (o : Option RuleV) (e : Ending) (w' : World) : Prop := match o with
  | some x => ∃ Al ml cl Ar mr cr, e = .returned (.tuple #[ruleV x Al ml cl Ar mr cr, .nilIface]) ∧ RuleM w' w'.heap.size x Al ml cl Ar mr cr ∧ Fresh B0 Al ml ∧ Fresh B0 Ar mr
  | none => e = .returned (.tuple #[.agg #[.bool false, .slice none 0 0, .bool false, .slice none 0 0, .bool false], .iface 180 (.agg #[.int .i64 0, .int .i64 90])])

theorem cell_set2' {w : World} {g b q i j : Nat} (h : b ≠ g) (x y : Value) : ((w.setCell ⟨g, i, none⟩ x).setCell ⟨g, j, none⟩ y).cell? ⟨b, q, none⟩ = w.cell? ⟨b, q, none⟩ :=
  World.cell?_of_block ((Below.heap_setCell _ _ _ _ h).trans (Below.heap_setCell _ _ _ _ h))
theorem cell_drew (w : World) (a : Addr) : w.drew.cell? a = w.cell? a := rfl
theorem text_drop (s : List UInt8) (k : Nat) : (⟨s.toArray⟩ : ByteArray).extract k s.length = ⟨(s.drop k).toArray⟩ := by
  apply ByteArray.ext
  simp [ByteArray.data_extract, List.take_of_length_le]

theorem set5_cells {w : World} {g : Nat} {a b c d e : Value} {t : TypeId} (h : w.heap[g]? = some (.cells #[a, b, c, d, e] t (0, 0))) (x y z u v : Value) :
    let W := ((((w.setCell ⟨g, 0, none⟩ x).setCell ⟨g, 1, none⟩ y).setCell ⟨g, 2, none⟩ z).setCell ⟨g, 3, none⟩ u).setCell ⟨g, 4, none⟩ v
    W.cell? ⟨g, 0, none⟩ = some x ∧ W.cell? ⟨g, 1, none⟩ = some y ∧ W.cell? ⟨g, 2, none⟩ = some z ∧ W.cell? ⟨g, 3, none⟩ = some u ∧ W.cell? ⟨g, 4, none⟩ = some v := by
  have h5 := setCell_blk (setCell_blk (setCell_blk (setCell_blk (setCell_blk h 0 x) 1 y) 2 z) 3 u) 4 v
  exact ⟨cell_blk h5 0, cell_blk h5 1, cell_blk h5 2, cell_blk h5 3, cell_blk h5 4⟩

theorem below_set5 {B : Nat} {w0 w : World} {g : Nat} (h : Below B w0 w) (hg : B ≤ g) (x y z u v : Value) :
    Below B w0 (((((w.setCell ⟨g, 0, none⟩ x).setCell ⟨g, 1, none⟩ y).setCell ⟨g, 2, none⟩ z).setCell ⟨g, 3, none⟩ u).setCell ⟨g, 4, none⟩ v) :=
  ((((h.setCell (p := ⟨g, 0, none⟩) hg x).setCell (p := ⟨g, 1, none⟩) hg y).setCell (p := ⟨g, 2, none⟩) hg z).setCell (p := ⟨g, 3, none⟩) hg u).setCell (p := ⟨g, 4, none⟩) hg v
theorem heap_set5 {w : World} {g k : Nat} (h : k ≠ g) (x y z u v : Value) :
    (((((w.setCell ⟨g, 0, none⟩ x).setCell ⟨g, 1, none⟩ y).setCell ⟨g, 2, none⟩ z).setCell ⟨g, 3, none⟩ u).setCell ⟨g, 4, none⟩ v).heap[k]? = w.heap[k]? := by
  rw [Below.heap_setCell _ _ _ _ h, Below.heap_setCell _ _ _ _ h, Below.heap_setCell _ _ _ _ h, Below.heap_setCell _ _ _ _ h, Below.heap_setCell _ _ _ _ h]
theorem heap_set2 {w : World} {g k i j : Nat} (h : k ≠ g) (x y : Value) : ((w.setCell ⟨g, i, none⟩ x).setCell ⟨g, j, none⟩ y).heap[k]? = w.heap[k]? := by
  rw [Below.heap_setCell _ _ _ _ h, Below.heap_setCell _ _ _ _ h]
theorem size_set {w : World} (p : Addr) (x : Value) : (w.setCell p x).heap.size = w.heap.size := by simp [World.setCell]

abbrev zeroR : Array Value := #[.bool false, .slice none 0 0, .bool false, .slice none 0 0, .bool false]

set_option maxRecDepth 100000 in
set_option maxHeartbeats 4000000 in
theorem reader_rule (rb nb : Nat) (A : Option Addr) (n c : Nat) (ss : List (List UInt8)) (s : List UInt8) (w : World) (hG : Globs w) (hr0 : w.cell? ⟨rb, 0, none⟩ = some (.func (.func 70) #[] #[.pointer (some ⟨nb, 0, none⟩)])) (hrlt : rb < w.heap.size)
    (hnb : w.cell? ⟨nb, 0, none⟩ = some (.slice A n c)) (hnlt : nb < w.heap.size) (hn : n ≤ 1000000) (hz : Strs w w.heap.size A n ss) (hs : ∀ x ∈ ss, x.length ≤ 1000) (hl : s.length ≤ 100000) :
    Calls Tryz.prog 119 #[.pointer (some ⟨rb, 0, none⟩), .string ⟨s.toArray⟩] w fun e w' => RuleEnd w.heap.size (ruleP s ss) e w' ∧ Below w.heap.size w w' := by
  have hcl := fun (t : List UInt8) (ht : t.length ≤ 100000) W (hW : Below w.heap.size w W) => rule_parse1 t A n c nb ss W (hG.below hW) ((cellOf hW hnlt).trans hnb) (Nat.lt_of_lt_of_le hnlt hW.size) hn ((hz.below hW).more hW.size) hs ht
  have Hcl := Lib.hid hcl
  have eg := enters_of Tryz.func70 (by kernel_rfl) rfl
  have hsz : (⟨s.toArray⟩ : ByteArray).size = s.length := by have := Lib.size_eq ⟨s.toArray⟩; simpa using this
  have Hsz := Lib.hid hsz
  clear hcl hz hs hnb hsz
  go_enter Tryz.func119, Tryz.ntmps119
  go_wp2_with fail
  refine wp_scope_once ?_
  generalize hQl : landed _ _ _ = Ql
  go_wp2_with fail
  have hb1 : Below w.heap.size w (((w.alloc (.cells zeroR 99)).alloc (.cells zeroR 99)).iter ⟨s.toArray⟩ 0) := (((Below.refl _ w).alloc (Nat.le_refl _) _).alloc (by simp) _).alloc (by simp; omega) _
  go_loopw [] (fun wr => ∃ pos, noMark (s.take pos) ∧ wr.heap[w.heap.size + 2]? = some (.stringIter ⟨s.toArray⟩ pos) ∧ wr.heap[w.heap.size]? = some (.cells zeroR 99 (0, 0)) ∧ wr.heap[w.heap.size + 1]? = some (.cells zeroR 99 (0, 0)) ∧ Below w.heap.size w wr)
    (fun wr => s.length - wr.iterPos (w.heap.size + 2))
  case atStart =>
    refine ⟨0, by simp [noMark], ?_, ?_, ?_, hb1⟩
    · have := World.iter_heap ((w.alloc (.cells zeroR 99)).alloc (.cells zeroR 99)) ⟨s.toArray⟩ 0
      simp only [World.size_alloc] at this
      exact this
    · exact (heap_old (by simp; omega)).trans ((heap_old (by simp)).trans (heap_new rfl))
    · exact (heap_old (by simp)).trans (heap_new (by simp))
  case round =>
    obtain ⟨pos, hno, hit, hRb, hXb, hbr⟩ := hrel
    rcases Nat.lt_or_ge pos s.length with hlt | hge
    · have hlt' : pos < (⟨s.toArray⟩ : ByteArray).size := by rw [Hsz.out]; exact hlt
      have hnx : ∀ ty, (Instr.next (.pointer (some ⟨w.heap.size + 2, 0, none⟩)) true ty).run Tryz.prog wr = _ := fun ty => Lib.run_next_any_at wr (w.heap.size + 2) ⟨s.toArray⟩ pos ty hit hlt'
      have hit2 := Lib.iterAt_heap wr (w.heap.size + 2) ⟨s.toArray⟩ pos (pos + (Utf8.decode ⟨s.toArray⟩ pos).2) hit
      have hR2 := (Lib.iterAt_other wr (w.heap.size + 2) w.heap.size ⟨s.toArray⟩ (pos + (Utf8.decode ⟨s.toArray⟩ pos).2) (by omega)).trans hRb
      have hX2 := (Lib.iterAt_other wr (w.heap.size + 2) (w.heap.size + 1) ⟨s.toArray⟩ (pos + (Utf8.decode ⟨s.toArray⟩ pos).2) (by omega)).trans hXb
      have hb2 := Lib.below_iterAt hbr (k := w.heap.size + 2) (by omega) ⟨s.toArray⟩ (pos + (Utf8.decode ⟨s.toArray⟩ pos).2)
      have hle := decode_le ⟨s.toArray⟩ pos
      have hwd := decode_width_pos ⟨s.toArray⟩ pos hlt'
      have hstep := noMark_step (s := ⟨s.toArray⟩) hlt' (by simpa using hno)
      have hmark := mark_step (s := ⟨s.toArray⟩) hlt'
      have Hit := Lib.hid hit
      have Hit2 := Lib.hid hit2
      have Hstep := Lib.hid hstep
      have Hmark := Lib.hid hmark
      clear hit hit2 hRb hXb hbr hstep hmark
      generalize (Utf8.decode ⟨s.toArray⟩ pos).2 = wd at *
      generalize (Utf8.decode ⟨s.toArray⟩ pos).1 = cn at *
      generalize hWi : wr.iterAt (w.heap.size + 2) ⟨s.toArray⟩ (pos + wd) = Wi at *
      clear hWi
      by_cases hm : cn = 43 ∨ cn = 47
      · obtain ⟨rfl, hsb⟩ := Hmark.out hm
        obtain ⟨nv, br, hfn, hbv, hb47, hmk⟩ : ∃ (nv : Int) (br : Bool), Instr.findNow (.int .i32) (.int .i32 (cn : Int)) markEs.toList 0 = some (some (nv.toNat, .int .i64 nv)) ∧ (nv == 1) = br ∧ (s[pos] == 47) = br ∧ (s[pos] = 43 ∨ s[pos] = 47) := by
          have h0 : (s[pos]).toNat = cn := by simpa using hsb
          rcases hm with rfl | rfl
          · have h1 : s[pos] = 43 := UInt8.toNat.inj (by rw [h0]; rfl)
            exact ⟨0, false, by simp [markEs, Instr.findNow, Instr.sameNow], rfl, by rw [h1]; rfl, .inl h1⟩
          · have h1 : s[pos] = 47 := UInt8.toNat.inj (by rw [h0]; rfl)
            exact ⟨1, true, by simp [markEs, Instr.findNow, Instr.sameNow], rfl, by rw [h1]; rfl, .inr h1⟩
        have hmi := markI_at hno hlt hmk
        have hrp : ruleP s ss = if (parsePB (trimL (s.take pos)) ss).2 = 0 ∧ (parsePB (trimL (s.drop (pos + 1))) ss).2 = 0 ∧ (parsePB (trimL (s.drop (pos + 1))) ss).1.1 = false then
            some { sl := (parsePB (trimL (s.take pos)) ss).1.1, xl := (parsePB (trimL (s.take pos)) ss).1.2, sr := (parsePB (trimL (s.drop (pos + 1))) ss).1.1, xr := (parsePB (trimL (s.drop (pos + 1))) ss).1.2, br := br } else none := by
          unfold ruleP; rw [hmi]; simp only [hb47]
        have ht9 := fun W => trim_blanks (s.take pos) W (by simp; omega)
        have ht10 := fun W => trim_blanks (s.drop (pos + 1)) W (by simp; omega)
        have hp9 := Hcl.out (trimL (s.take pos)) (by have := trimL_len (s.take pos); simp at this; omega)
        have hp10 := Hcl.out (trimL (s.drop (pos + 1))) (by have := trimL_len (s.drop (pos + 1)); simp at this; omega)
        generalize parsePB (trimL (s.take pos)) ss = p9 at hrp hp9
        generalize parsePB (trimL (s.drop (pos + 1))) ss = p10 at hrp hp10
        obtain ⟨⟨st1, xl⟩, e1⟩ := p9
        obtain ⟨⟨st2, xr⟩, e2⟩ := p10
        simp only [PatEndF] at hrp hp9 hp10
        have Hrp := Lib.hid hrp
        have Ht9 := Lib.hid ht9
        have Ht10 := Lib.hid ht10
        have Hp9 := Lib.hid hp9
        have Hp10 := Lib.hid hp10
        have Hfn := Lib.hid hfn
        have hpw : (pos : Int) + 1 = ((pos + 1 : Nat) : Int) := by omega
        have Hpw := Lib.hid hpw
        clear hrp ht9 ht10 hp9 hp10 hfn hmi hmk hb47 hsb hm hno hpw Hstep Hmark Hcl
        go_wp2_with fail
        refine (rule_marks _).mono ?_
        rintro e w4 ⟨rfl, hm4, hb4, hz4⟩
        have hlk : (Instr.lookup 160 (.map (some Wi.heap.size)) (.int .i32 (cn : Int)) true).run Tryz.prog w4 = .ok (.tuple #[.int .i64 nv, .bool true]) w4 := run_lookup_at true Tryz.underlying160 Tryz.underlying21 rfl hm4 Hfn.out
        have hl2 := (Array.getElem?_eq_some_iff.1 Hit2.out).1
        have hR4 := (hb4.block _ (by omega)).trans hR2
        have hX4 := (hb4.block _ (by omega)).trans hX2
        have hbw4 := hb2.trans (hb4.mono hb2.size)
        have hz4l : w.heap.size + 2 < w4.heap.size := by omega
        clear hm4 hz4 hb4 hR2 hX2 hb2 Hit Hit2 hl2
        have c4 := cell_blk hX4 4
        have f4 := frozen_blk hX4 4
        simp only [List.getElem?_toArray, List.getElem?_cons_zero, List.getElem?_cons_succ] at c4
        go_upto_region 9 with fail
        have hX9 := setCell_blk hX4 4 (.bool br)
        have hR9 := (Below.heap_setCell w4 ⟨w.heap.size + 1, 4, none⟩ (.bool br) w.heap.size (Nat.ne_of_lt (Nat.lt_succ_self _))).trans hR4
        have hbW9 := hbw4.setCell (p := ⟨w.heap.size + 1, 4, none⟩) (Nat.le_succ _) (.bool br)
        have hX9l : w.heap.size + 1 < (w4.setCell ⟨w.heap.size + 1, 4, none⟩ (.bool br)).heap.size := by rw [size_set]; omega
        generalize w4.setCell ⟨w.heap.size + 1, 4, none⟩ (.bool br) = W9 at *
        have hX9 : W9.heap[w.heap.size + 1]? = some (.cells #[.bool false, .slice none 0 0, .bool false, .slice none 0 0, .bool br] 99 (0, 0)) := hX9
        clear hX4 hR4 hbw4 c4 f4 hlk
        refine wp_region_noPanic ?_
        refine wp_region_held_drew (S := (fun V => V.cell? ⟨rb, 0, none⟩ = some (.func (.func 70) #[] #[.pointer (some ⟨nb, 0, none⟩)]))) (by kernel_rfl) ((cell_drew _ _).trans ((cellOf hbW9 hrlt).trans hr0)) (fun hHeld => ?_)
        refine wpAnyH_take (i := 0) (v := .pointer (some ⟨rb, 0, none⟩)) rfl (by kernel_rfl) (by kernel_rfl) (by kernel_rfl) (fun _ _ _ h => h) (.inl ⟨by rfl, fun V hV => by obtain c0 := hV; go_simp⟩) hHeld ?_
        try simp only [Act.put, List.getElem_toArray, List.getElem_cons_zero, List.setIfInBounds_toArray, List.set_cons_zero, List.set_cons_succ]
        refine wpAnyH_take (i := 1) (v := .pointer (some ⟨rb, 0, none⟩)) rfl (by kernel_rfl) (by kernel_rfl) (by kernel_rfl) (fun _ _ _ h => h) (.inl ⟨by rfl, fun V hV => by obtain c0 := hV; go_simp⟩) hHeld ?_
        try simp only [Act.put, List.getElem_toArray, List.getElem_cons_zero, List.getElem_cons_succ, List.setIfInBounds_toArray, List.set_cons_zero, List.set_cons_succ]
        refine wpAnyH_take (i := 2) (v := .pointer (some ⟨rb, 0, none⟩)) rfl (by kernel_rfl) (by kernel_rfl) (by kernel_rfl) (fun _ _ _ h => h) (.inl ⟨by rfl, fun V hV => by obtain c0 := hV; go_simp⟩) hHeld ?_
        try simp only [Act.put, List.getElem_toArray, List.getElem_cons_zero, List.getElem_cons_succ, List.setIfInBounds_toArray, List.set_cons_zero, List.set_cons_succ]
        refine wpAnyH_take (i := 3) (v := .func (.func 70) #[] #[.pointer (some ⟨nb, 0, none⟩)]) rfl (by kernel_rfl) (by kernel_rfl) (by kernel_rfl) (fun _ _ _ h => h) (.inl ⟨by rfl, fun V hV => by obtain c0 := hV; go_simp⟩) hHeld ?_
        try simp only [Act.put, List.getElem_toArray, List.getElem_cons_zero, List.getElem_cons_succ, List.setIfInBounds_toArray, List.set_cons_zero, List.set_cons_succ]
        refine wpAnyH_take (i := 4) (v := .string ⟨s.toArray⟩) rfl (by kernel_rfl) (by kernel_rfl) (by kernel_rfl) (fun _ _ _ h => h) (.inl ⟨by rfl, fun V hV => by obtain c0 := hV; go_simp⟩) hHeld ?_
        try simp only [Act.put, List.getElem_toArray, List.getElem_cons_zero, List.getElem_cons_succ, List.setIfInBounds_toArray, List.set_cons_zero, List.set_cons_succ]
        refine wpAnyH_take (i := 5) (v := .int .i64 (pos : Int)) rfl (by kernel_rfl) (by kernel_rfl) (by kernel_rfl) (fun _ _ _ h => h) (.inl ⟨by rfl, fun V hV => by obtain c0 := hV; go_simp⟩) hHeld ?_
        try simp only [Act.put, List.getElem_toArray, List.getElem_cons_zero, List.getElem_cons_succ, List.setIfInBounds_toArray, List.set_cons_zero, List.set_cons_succ]
        refine wpAnyH_take (i := 6) (v := .string ⟨(s.take pos).toArray⟩) rfl (by kernel_rfl) (by kernel_rfl) (by kernel_rfl) (fun _ _ _ h => h) (.inl ⟨by rfl, fun V hV => by obtain c0 := hV; go_simp; simp only [text_cut, if_pos (Nat.le_of_lt hlt)]⟩) hHeld ?_
        try simp only [Act.put, List.getElem_toArray, List.getElem_cons_zero, List.getElem_cons_succ, List.setIfInBounds_toArray, List.set_cons_zero, List.set_cons_succ]
        refine wpAnyH_ready (rs := [7]) (by kernel_rfl) (by simp) ?_
        refine AllReadyH.cons rfl (fun K hK => ?_) AllReadyH.nil
        go_simp
        refine (Ht9.out _).mono ?_
        rintro e v9a ⟨rfl, hc9a⟩
        have hf9 := (cellOf (hbW9.drew.trans (hc9a.mono hbW9.size)) hrlt).trans hr0
        have hba9 : Below w.heap.size w v9a := hbW9.drew.trans (hc9a.mono hbW9.size)
        have hX9a : v9a.heap[w.heap.size + 1]? = _ := (hc9a.block (w.heap.size + 1) hX9l).trans hX9
        have hR9a : v9a.heap[w.heap.size]? = _ := (hc9a.block w.heap.size (Nat.lt_of_succ_lt hX9l)).trans hR9
        refine hK.out _ _ hf9 (fun hHeld => ?_)
        clear hK K
        try simp only [Act.put, List.getElem_toArray, List.getElem_cons_zero, List.getElem_cons_succ, List.setIfInBounds_toArray, List.set_cons_zero, List.set_cons_succ]
        refine wpAnyH_ready (rs := [8]) (by kernel_rfl) (by simp) ?_
        refine AllReadyH.cons rfl (fun K hK => ?_) AllReadyH.nil
        go_simp
        refine (Hp9.out _ hba9).mono ?_
        rintro e v9b ⟨⟨A1, n1, c1, rfl, hP9, hn9, hfr9⟩, hc9b⟩
        have hbb9 : Below w.heap.size w v9b := hba9.trans (hc9b.mono hba9.size)
        have hg9 := (cellOf hbb9 hrlt).trans hr0
        have hX9b := (hc9b.block (w.heap.size + 1) (Nat.lt_of_lt_of_le hX9l hc9a.size)).trans hX9a
        have hR9b := (hc9b.block w.heap.size (Nat.lt_of_lt_of_le (Nat.lt_of_succ_lt hX9l) hc9a.size)).trans hR9a
        have z90 := cell_blk hX9b 0
        have z91 := cell_blk hX9b 1
        have zf90 := frozen_blk hX9b 0
        have zf91 := frozen_blk hX9b 1
        simp only [List.getElem?_toArray, List.getElem?_cons_zero, List.getElem?_cons_succ] at z90 z91
        refine hK.out _ _ hg9 (fun hHeld => ?_)
        clear hK K
        try simp only [Act.put, List.getElem_toArray, List.getElem_cons_zero, List.getElem_cons_succ, List.setIfInBounds_toArray, List.set_cons_zero, List.set_cons_succ]
        refine wpAnyH_take (i := 9) (v := .tuple #[.agg #[.bool st1, .slice A1 n1 c1], .int .i64 e1]) rfl (by kernel_rfl) (by kernel_rfl) (by kernel_rfl) (fun _ _ _ h => h) (.inl ⟨by rfl, fun V hV => by obtain c0 := hV; go_simp⟩) hHeld ?_
        try simp only [Act.put, List.getElem_toArray, List.getElem_cons_zero, List.getElem_cons_succ, List.setIfInBounds_toArray, List.set_cons_zero, List.set_cons_succ]
        refine wpAnyH_take (i := 10) (v := .agg #[.bool st1, .slice A1 n1 c1]) rfl (by kernel_rfl) (by kernel_rfl) (by kernel_rfl) (fun _ _ _ h => h) (.inl ⟨by rfl, fun V hV => by obtain c0 := hV; go_simp⟩) hHeld ?_
        try simp only [Act.put, List.getElem_toArray, List.getElem_cons_zero, List.getElem_cons_succ, List.setIfInBounds_toArray, List.set_cons_zero, List.set_cons_succ]
        refine wpAnyH_take (i := 11) (v := .int .i64 e1) rfl (by kernel_rfl) (by kernel_rfl) (by kernel_rfl) (fun _ _ _ h => h) (.inl ⟨by rfl, fun V hV => by obtain c0 := hV; go_simp⟩) hHeld ?_
        try simp only [Act.put, List.getElem_toArray, List.getElem_cons_zero, List.getElem_cons_succ, List.setIfInBounds_toArray, List.set_cons_zero, List.set_cons_succ]
        refine wpAnyH_take (i := 12) (v := .pointer (some ⟨w.heap.size + 1, 0, none⟩)) rfl (by kernel_rfl) (by kernel_rfl) (by kernel_rfl) (fun _ _ _ h => h) (.inl ⟨by rfl, fun V hV => by obtain c0 := hV; go_simp⟩) hHeld ?_
        try simp only [Act.put, List.getElem_toArray, List.getElem_cons_zero, List.getElem_cons_succ, List.setIfInBounds_toArray, List.set_cons_zero, List.set_cons_succ]
        refine wpAnyH_ready (rs := [13]) (by kernel_rfl) (by simp) ?_
        refine AllReadyH.cons rfl (fun K hK => ?_) AllReadyH.nil
        go_simp
        have hgs9 : ((v9b.setCell ⟨w.heap.size + 1, 0, none⟩ (.bool st1)).setCell ⟨w.heap.size + 1, 1, none⟩ (.slice A1 n1 c1)).cell? ⟨rb, 0, none⟩ = some (.func (.func 70) #[] #[.pointer (some ⟨nb, 0, none⟩)]) := (cell_set2' (Nat.ne_of_lt (Nat.lt_succ_of_lt hrlt)) _ _).trans hg9
        refine hK.out _ _ hgs9 (fun hHeld => ?_)
        clear hK K
        try simp only [Act.put, List.getElem_toArray, List.getElem_cons_zero, List.getElem_cons_succ, List.setIfInBounds_toArray, List.set_cons_zero, List.set_cons_succ]
        refine wpAnyH_take (i := 14) (v := .int .i64 e1) rfl (by kernel_rfl) (by kernel_rfl) (by kernel_rfl) (fun _ _ _ h => h) (.inl ⟨by rfl, fun V hV => by obtain c0 := hV; go_simp⟩) hHeld ?_
        try simp only [Act.put, List.getElem_toArray, List.getElem_cons_zero, List.getElem_cons_succ, List.setIfInBounds_toArray, List.set_cons_zero, List.set_cons_succ]
        refine wpAnyH_done (by kernel_rfl) ?_ _
        refine NoPanic.normal ?_

        have hX10 := setCell_blk (setCell_blk hX9b 0 (.bool st1)) 1 (.slice A1 n1 c1)
        have hR10 := (heap_set2 (i := 0) (j := 1) (w := v9b) (g := w.heap.size + 1) (Nat.ne_of_lt (Nat.lt_succ_self w.heap.size)) (.bool st1) (.slice A1 n1 c1)).trans hR9b
        have hbW10 := (hbb9.setCell (p := ⟨w.heap.size + 1, 0, none⟩) (Nat.le_succ _) (.bool st1)).setCell (p := ⟨w.heap.size + 1, 1, none⟩) (Nat.le_succ _) (.slice A1 n1 c1)
        have hs9a : w.heap.size + 1 < v9a.heap.size := Nat.lt_of_lt_of_le hX9l hc9a.size
        have hF9 : Fresh (w.heap.size + 2) A1 n1 := Fresh.less hfr9 hs9a
        have hX10l : w.heap.size + 1 < ((v9b.setCell ⟨w.heap.size + 1, 0, none⟩ (.bool st1)).setCell ⟨w.heap.size + 1, 1, none⟩ (.slice A1 n1 c1)).heap.size := by
          rw [size_set, size_set]; exact Nat.lt_of_lt_of_le hs9a hc9b.size
        have hPL : Prs ((v9b.setCell ⟨w.heap.size + 1, 0, none⟩ (.bool st1)).setCell ⟨w.heap.size + 1, 1, none⟩ (.slice A1 n1 c1)) ((v9b.setCell ⟨w.heap.size + 1, 0, none⟩ (.bool st1)).setCell ⟨w.heap.size + 1, 1, none⟩ (.slice A1 n1 c1)).heap.size A1 n1 xl :=
          hP9.keep hF9 (fun k h1 _ => heap_set2 (by omega) _ _) (by rw [size_set, size_set]; exact Nat.le_refl _)
        go_upto_region 10 with fail
        clear hX9 hR9 hX9a hR9a hX9b hR9b hba9 hc9a hc9b hfr9 hP9 hbb9 hbW9 hgs9 hHeld hf9 hg9 z90 z91 zf90 zf91 hs9a
        generalize (v9b.setCell ⟨w.heap.size + 1, 0, none⟩ (.bool st1)).setCell ⟨w.heap.size + 1, 1, none⟩ (.slice A1 n1 c1) = W10 at *
        have hX10 : W10.heap[w.heap.size + 1]? = some (.cells #[.bool st1, .slice A1 n1 c1, .bool false, .slice none 0 0, .bool br] 99 (0, 0)) := hX10
        refine wp_region_noPanic ?_
        refine wp_region_held_drew (S := (fun V => V.cell? ⟨rb, 0, none⟩ = some (.func (.func 70) #[] #[.pointer (some ⟨nb, 0, none⟩)]))) (by kernel_rfl) ((cell_drew _ _).trans ((cellOf hbW10 hrlt).trans hr0)) (fun hHeld => ?_)
        refine wpAnyH_take (i := 0) (v := .pointer (some ⟨rb, 0, none⟩)) rfl (by kernel_rfl) (by kernel_rfl) (by kernel_rfl) (fun _ _ _ h => h) (.inl ⟨by rfl, fun V hV => by obtain c0 := hV; go_simp⟩) hHeld ?_
        try simp only [Act.put, List.getElem_toArray, List.getElem_cons_zero, List.setIfInBounds_toArray, List.set_cons_zero, List.set_cons_succ]
        refine wpAnyH_take (i := 1) (v := .pointer (some ⟨rb, 0, none⟩)) rfl (by kernel_rfl) (by kernel_rfl) (by kernel_rfl) (fun _ _ _ h => h) (.inl ⟨by rfl, fun V hV => by obtain c0 := hV; go_simp⟩) hHeld ?_
        try simp only [Act.put, List.getElem_toArray, List.getElem_cons_zero, List.getElem_cons_succ, List.setIfInBounds_toArray, List.set_cons_zero, List.set_cons_succ]
        refine wpAnyH_take (i := 2) (v := .pointer (some ⟨rb, 0, none⟩)) rfl (by kernel_rfl) (by kernel_rfl) (by kernel_rfl) (fun _ _ _ h => h) (.inl ⟨by rfl, fun V hV => by obtain c0 := hV; go_simp⟩) hHeld ?_
        try simp only [Act.put, List.getElem_toArray, List.getElem_cons_zero, List.getElem_cons_succ, List.setIfInBounds_toArray, List.set_cons_zero, List.set_cons_succ]
        refine wpAnyH_take (i := 3) (v := .func (.func 70) #[] #[.pointer (some ⟨nb, 0, none⟩)]) rfl (by kernel_rfl) (by kernel_rfl) (by kernel_rfl) (fun _ _ _ h => h) (.inl ⟨by rfl, fun V hV => by obtain c0 := hV; go_simp⟩) hHeld ?_
        try simp only [Act.put, List.getElem_toArray, List.getElem_cons_zero, List.getElem_cons_succ, List.setIfInBounds_toArray, List.set_cons_zero, List.set_cons_succ]
        refine wpAnyH_take (i := 4) (v := .string ⟨s.toArray⟩) rfl (by kernel_rfl) (by kernel_rfl) (by kernel_rfl) (fun _ _ _ h => h) (.inl ⟨by rfl, fun V hV => by obtain c0 := hV; go_simp⟩) hHeld ?_
        try simp only [Act.put, List.getElem_toArray, List.getElem_cons_zero, List.getElem_cons_succ, List.setIfInBounds_toArray, List.set_cons_zero, List.set_cons_succ]
        refine wpAnyH_take (i := 5) (v := .int .i64 (pos : Int)) rfl (by kernel_rfl) (by kernel_rfl) (by kernel_rfl) (fun _ _ _ h => h) (.inl ⟨by rfl, fun V hV => by obtain c0 := hV; go_simp⟩) hHeld ?_
        try simp only [Act.put, List.getElem_toArray, List.getElem_cons_zero, List.getElem_cons_succ, List.setIfInBounds_toArray, List.set_cons_zero, List.set_cons_succ]
        refine wpAnyH_take (i := 6) (v := .int .i64 ((pos + 1 : Nat) : Int)) rfl (by kernel_rfl) (by kernel_rfl) (by kernel_rfl) (fun _ _ _ h => h) (.inl ⟨by rfl, fun V hV => by obtain c0 := hV; go_simp; exact wraps_i64 _ (by omega) (by omega)⟩) hHeld ?_
        try simp only [Act.put, List.getElem_toArray, List.getElem_cons_zero, List.getElem_cons_succ, List.setIfInBounds_toArray, List.set_cons_zero, List.set_cons_succ]
        refine wpAnyH_take (i := 7) (v := .string ⟨(s.drop (pos + 1)).toArray⟩) rfl (by kernel_rfl) (by kernel_rfl) (by kernel_rfl) (fun _ _ _ h => h) (.inl ⟨by rfl, fun V hV => by obtain c0 := hV; go_simp; rw [if_pos ⟨by omega, by omega⟩, text_drop]⟩) hHeld ?_
        try simp only [Act.put, List.getElem_toArray, List.getElem_cons_zero, List.getElem_cons_succ, List.setIfInBounds_toArray, List.set_cons_zero, List.set_cons_succ]
        refine wpAnyH_ready (rs := [8]) (by kernel_rfl) (by simp) ?_
        refine AllReadyH.cons rfl (fun K hK => ?_) AllReadyH.nil
        go_simp
        refine (Ht10.out _).mono ?_
        rintro e v10a ⟨rfl, hc10a⟩
        have hf10 := (cellOf (hbW10.drew.trans (hc10a.mono hbW10.size)) hrlt).trans hr0
        have hba10 : Below w.heap.size w v10a := hbW10.drew.trans (hc10a.mono hbW10.size)
        have hX10a : v10a.heap[w.heap.size + 1]? = _ := (hc10a.block (w.heap.size + 1) hX10l).trans hX10
        have hR10a : v10a.heap[w.heap.size]? = _ := (hc10a.block w.heap.size (Nat.lt_of_succ_lt hX10l)).trans hR10
        have hPLa := hPL.below ((Below.refl W10.heap.size W10).drew.trans hc10a)
        refine hK.out _ _ hf10 (fun hHeld => ?_)
        clear hK K
        try simp only [Act.put, List.getElem_toArray, List.getElem_cons_zero, List.getElem_cons_succ, List.setIfInBounds_toArray, List.set_cons_zero, List.set_cons_succ]
        refine wpAnyH_ready (rs := [9]) (by kernel_rfl) (by simp) ?_
        refine AllReadyH.cons rfl (fun K hK => ?_) AllReadyH.nil
        go_simp
        refine (Hp10.out _ hba10).mono ?_
        rintro e v10b ⟨⟨A2, n2, c2, rfl, hP10, hn10, hfr10⟩, hc10b⟩
        have hbb10 : Below w.heap.size w v10b := hba10.trans (hc10b.mono hba10.size)
        have hg10 := (cellOf hbb10 hrlt).trans hr0
        have hX10b := (hc10b.block (w.heap.size + 1) (Nat.lt_of_lt_of_le hX10l hc10a.size)).trans hX10a
        have hR10b := (hc10b.block w.heap.size (Nat.lt_of_lt_of_le (Nat.lt_of_succ_lt hX10l) hc10a.size)).trans hR10a
        have z100 := cell_blk hX10b 2
        have z101 := cell_blk hX10b 3
        have zf100 := frozen_blk hX10b 2
        have zf101 := frozen_blk hX10b 3
        simp only [List.getElem?_toArray, List.getElem?_cons_zero, List.getElem?_cons_succ] at z100 z101
        have hPLb := hPLa.below (hc10b.mono hc10a.size)
        refine hK.out _ _ hg10 (fun hHeld => ?_)
        clear hK K
        try simp only [Act.put, List.getElem_toArray, List.getElem_cons_zero, List.getElem_cons_succ, List.setIfInBounds_toArray, List.set_cons_zero, List.set_cons_succ]
        refine wpAnyH_take (i := 10) (v := .tuple #[.agg #[.bool st2, .slice A2 n2 c2], .int .i64 e2]) rfl (by kernel_rfl) (by kernel_rfl) (by kernel_rfl) (fun _ _ _ h => h) (.inl ⟨by rfl, fun V hV => by obtain c0 := hV; go_simp⟩) hHeld ?_
        try simp only [Act.put, List.getElem_toArray, List.getElem_cons_zero, List.getElem_cons_succ, List.setIfInBounds_toArray, List.set_cons_zero, List.set_cons_succ]
        refine wpAnyH_take (i := 11) (v := .agg #[.bool st2, .slice A2 n2 c2]) rfl (by kernel_rfl) (by kernel_rfl) (by kernel_rfl) (fun _ _ _ h => h) (.inl ⟨by rfl, fun V hV => by obtain c0 := hV; go_simp⟩) hHeld ?_
        try simp only [Act.put, List.getElem_toArray, List.getElem_cons_zero, List.getElem_cons_succ, List.setIfInBounds_toArray, List.set_cons_zero, List.set_cons_succ]
        refine wpAnyH_take (i := 12) (v := .int .i64 e2) rfl (by kernel_rfl) (by kernel_rfl) (by kernel_rfl) (fun _ _ _ h => h) (.inl ⟨by rfl, fun V hV => by obtain c0 := hV; go_simp⟩) hHeld ?_
        try simp only [Act.put, List.getElem_toArray, List.getElem_cons_zero, List.getElem_cons_succ, List.setIfInBounds_toArray, List.set_cons_zero, List.set_cons_succ]
        refine wpAnyH_take (i := 13) (v := .pointer (some ⟨w.heap.size + 1, 2, none⟩)) rfl (by kernel_rfl) (by kernel_rfl) (by kernel_rfl) (fun _ _ _ h => h) (.inl ⟨by rfl, fun V hV => by obtain c0 := hV; go_simp⟩) hHeld ?_
        try simp only [Act.put, List.getElem_toArray, List.getElem_cons_zero, List.getElem_cons_succ, List.setIfInBounds_toArray, List.set_cons_zero, List.set_cons_succ]
        refine wpAnyH_ready (rs := [14]) (by kernel_rfl) (by simp) ?_
        refine AllReadyH.cons rfl (fun K hK => ?_) AllReadyH.nil
        go_simp
        have hgs10 : ((v10b.setCell ⟨w.heap.size + 1, 2, none⟩ (.bool st2)).setCell ⟨w.heap.size + 1, 3, none⟩ (.slice A2 n2 c2)).cell? ⟨rb, 0, none⟩ = some (.func (.func 70) #[] #[.pointer (some ⟨nb, 0, none⟩)]) := (cell_set2' (Nat.ne_of_lt (Nat.lt_succ_of_lt hrlt)) _ _).trans hg10
        refine hK.out _ _ hgs10 (fun hHeld => ?_)
        clear hK K
        try simp only [Act.put, List.getElem_toArray, List.getElem_cons_zero, List.getElem_cons_succ, List.setIfInBounds_toArray, List.set_cons_zero, List.set_cons_succ]
        refine wpAnyH_take (i := 15) (v := .int .i64 e2) rfl (by kernel_rfl) (by kernel_rfl) (by kernel_rfl) (fun _ _ _ h => h) (.inl ⟨by rfl, fun V hV => by obtain c0 := hV; go_simp⟩) hHeld ?_
        try simp only [Act.put, List.getElem_toArray, List.getElem_cons_zero, List.getElem_cons_succ, List.setIfInBounds_toArray, List.set_cons_zero, List.set_cons_succ]
        refine wpAnyH_done (by kernel_rfl) ?_ _
        refine NoPanic.normal ?_

        have hX11 := setCell_blk (setCell_blk hX10b 2 (.bool st2)) 3 (.slice A2 n2 c2)
        have hR11 := (heap_set2 (i := 2) (j := 3) (w := v10b) (g := w.heap.size + 1) (Nat.ne_of_lt (Nat.lt_succ_self w.heap.size)) (.bool st2) (.slice A2 n2 c2)).trans hR10b
        have hbW11 := (hbb10.setCell (p := ⟨w.heap.size + 1, 2, none⟩) (Nat.le_succ _) (.bool st2)).setCell (p := ⟨w.heap.size + 1, 3, none⟩) (Nat.le_succ _) (.slice A2 n2 c2)
        have hs10a : w.heap.size + 1 < v10a.heap.size := Nat.lt_of_lt_of_le hX10l hc10a.size
        have hF10 : Fresh (w.heap.size + 2) A2 n2 := Fresh.less hfr10 hs10a
        have hPR : Prs ((v10b.setCell ⟨w.heap.size + 1, 2, none⟩ (.bool st2)).setCell ⟨w.heap.size + 1, 3, none⟩ (.slice A2 n2 c2)) ((v10b.setCell ⟨w.heap.size + 1, 2, none⟩ (.bool st2)).setCell ⟨w.heap.size + 1, 3, none⟩ (.slice A2 n2 c2)).heap.size A2 n2 xr :=
          hP10.keep hF10 (fun k h1 _ => heap_set2 (by omega) _ _) (by rw [size_set, size_set]; exact Nat.le_refl _)
        have hPL2 : Prs ((v10b.setCell ⟨w.heap.size + 1, 2, none⟩ (.bool st2)).setCell ⟨w.heap.size + 1, 3, none⟩ (.slice A2 n2 c2)) ((v10b.setCell ⟨w.heap.size + 1, 2, none⟩ (.bool st2)).setCell ⟨w.heap.size + 1, 3, none⟩ (.slice A2 n2 c2)).heap.size A1 n1 xl :=
          hPLb.keep hF9 (fun k h1 _ => heap_set2 (by omega) _ _) (by rw [size_set, size_set]; exact Nat.le_trans hc10a.size hc10b.size)
        go_upto_region 11 with fail
        clear hX10 hR10 hX10a hR10a hX10b hR10b hba10 hc10a hc10b hfr10 hP10 hbb10 hbW10 hgs10 hHeld hf10 hg10 z100 z101 zf100 zf101 hs10a hPL hPLa hPLb
        generalize (v10b.setCell ⟨w.heap.size + 1, 2, none⟩ (.bool st2)).setCell ⟨w.heap.size + 1, 3, none⟩ (.slice A2 n2 c2) = W11 at *
        have hX11 : W11.heap[w.heap.size + 1]? = some (.cells #[.bool st1, .slice A1 n1 c1, .bool st2, .slice A2 n2 c2, .bool br] 99 (0, 0)) := hX11
        have x0 : W11.cell? ⟨w.heap.size + 1, 0, none⟩ = some (.bool st1) := cell_blk hX11 0
        have x1 : W11.cell? ⟨w.heap.size + 1, 1, none⟩ = some (.slice A1 n1 c1) := cell_blk hX11 1
        have x2 : W11.cell? ⟨w.heap.size + 1, 2, none⟩ = some (.bool st2) := cell_blk hX11 2
        have x3 : W11.cell? ⟨w.heap.size + 1, 3, none⟩ = some (.slice A2 n2 c2) := cell_blk hX11 3
        have x4 : W11.cell? ⟨w.heap.size + 1, 4, none⟩ = some (.bool br) := cell_blk hX11 4
        have z0 := frozen_blk hR11 0
        have z1 := frozen_blk hR11 1
        have z2 := frozen_blk hR11 2
        have z3 := frozen_blk hR11 3
        have z4 := frozen_blk hR11 4
        have k0 : W11.cell? ⟨w.heap.size, 0, none⟩ = some (.bool false) := cell_blk hR11 0
        have k1 : W11.cell? ⟨w.heap.size, 1, none⟩ = some (.slice none 0 0) := cell_blk hR11 1
        have k2 : W11.cell? ⟨w.heap.size, 2, none⟩ = some (.bool false) := cell_blk hR11 2
        have k3 : W11.cell? ⟨w.heap.size, 3, none⟩ = some (.slice none 0 0) := cell_blk hR11 3
        have k4 : W11.cell? ⟨w.heap.size, 4, none⟩ = some (.bool false) := cell_blk hR11 4
        have hbad : ¬ (e1 = 0 ∧ e2 = 0 ∧ st2 = false) → ruleP s ss = none := fun h => by rw [Hrp.out, if_neg h]
        have Hbad := Lib.hid hbad
        clear hbad
        rcases he1 : (e1 != 0) with _ | _
        · have h1 : e1 = 0 := by simpa using he1
          rcases he2 : (e2 != 0) with _ | _
          · have h2 : e2 = 0 := by simpa using he2
            rcases st2 with _ | _
            · have hrp2 : ruleP s ss = some { sl := st1, xl := xl, sr := false, xr := xr, br := br } := by rw [Hrp.out, if_pos ⟨h1, h2, rfl⟩]
              have Hrp2 := Lib.hid hrp2
              clear hrp2 h1 h2
              go_wp2_with fail
              subst hQl
              rw [landed_ret]
              obtain ⟨y0, y1, y2, y3, y4⟩ := set5_cells hR11 (.bool st1) (.slice A1 n1 c1) (.bool false) (.slice A2 n2 c2) (.bool br)
              refine bodyPost_ret (v := .tuple #[.agg #[.bool st1, .slice A1 n1 c1, .bool false, .slice A2 n2 c2, .bool br], .nilIface]) (by simp [results, Tryz.results119, go_sem, y0, y1, y2, y3, y4]) rfl ⟨?_, below_set5 hbW11 (Nat.le_refl _) _ _ _ _ _⟩
              rw [Hrp2.out]
              refine ⟨A1, n1, c1, A2, n2, c2, rfl, ⟨hPL2.keep hF9 (fun k h1 _ => heap_set5 (by omega) _ _ _ _ _) (by simp only [size_set]; exact Nat.le_refl _), hPR.keep hF10 (fun k h1 _ => heap_set5 (by omega) _ _ _ _ _) (by simp only [size_set]; exact Nat.le_refl _), by show n1 ≤ 1000; omega, by show n2 ≤ 1000; omega⟩, Fresh.less hF9 (by omega), Fresh.less hF10 (by omega)⟩
            · have hrp2 := Hbad.out (fun h => by simp_all)
              have Hrp2 := Lib.hid hrp2
              clear hrp2
              go_wp2_with fail
              go_step3
              go_simp
              subst hQl
              refine landed_goto (by rfl) ?_
              go_wp2_with fail
              try rw [Exit.noGoto_ret]
              obtain ⟨y0, y1, y2, y3, y4⟩ := set5_cells hR11 (.bool false) (.slice none 0 0) (.bool false) (.slice none 0 0) (.bool false)
              refine bodyPost_ret (v := .tuple #[.agg #[.bool false, .slice none 0 0, .bool false, .slice none 0 0, .bool false], .iface 180 (.agg #[.int .i64 0, .int .i64 90])]) (by simp [results, Tryz.results119, go_sem, y0, y1, y2, y3, y4]) rfl ⟨by rw [Hrp2.out]; rfl, below_set5 hbW11 (Nat.le_refl _) _ _ _ _ _⟩
          · have hrp2 := Hbad.out (fun h => by simp_all)
            have Hrp2 := Lib.hid hrp2
            clear hrp2
            go_wp2_with fail
            go_step3
            go_simp
            subst hQl
            refine landed_goto (by rfl) ?_
            go_wp2_with fail
            try rw [Exit.noGoto_ret]
            obtain ⟨y0, y1, y2, y3, y4⟩ := set5_cells hR11 (.bool false) (.slice none 0 0) (.bool false) (.slice none 0 0) (.bool false)
            refine bodyPost_ret (v := .tuple #[.agg #[.bool false, .slice none 0 0, .bool false, .slice none 0 0, .bool false], .iface 180 (.agg #[.int .i64 0, .int .i64 90])]) (by simp [results, Tryz.results119, go_sem, y0, y1, y2, y3, y4]) rfl ⟨by rw [Hrp2.out]; rfl, below_set5 hbW11 (Nat.le_refl _) _ _ _ _ _⟩
        · have hrp2 := Hbad.out (fun h => by simp_all)
          have Hrp2 := Lib.hid hrp2
          clear hrp2
          go_wp2_with fail
          go_step3
          go_simp
          subst hQl
          refine landed_goto (by rfl) ?_
          go_wp2_with fail
          try rw [Exit.noGoto_ret]
          obtain ⟨y0, y1, y2, y3, y4⟩ := set5_cells hR11 (.bool false) (.slice none 0 0) (.bool false) (.slice none 0 0) (.bool false)
          refine bodyPost_ret (v := .tuple #[.agg #[.bool false, .slice none 0 0, .bool false, .slice none 0 0, .bool false], .iface 180 (.agg #[.int .i64 0, .int .i64 90])]) (by simp [results, Tryz.results119, go_sem, y0, y1, y2, y3, y4]) rfl ⟨by rw [Hrp2.out]; rfl, below_set5 hbW11 (Nat.le_refl _) _ _ _ _ _⟩
      · have hno2 := Hstep.out (by omega)
        have Hno2 := Lib.hid hno2
        have hfn : Instr.findNow (.int .i32) (.int .i32 (cn : Int)) markEs.toList 0 = some none := by
          have h1 : ((cn : Int) == 43) = false := by rw [beq_eq_false_iff_ne]; omega
          have h2 : ((cn : Int) == 47) = false := by rw [beq_eq_false_iff_ne]; omega
          simp [markEs, Instr.findNow, Instr.sameNow, h1, h2]
        have Hfn := Lib.hid hfn
        clear hno2 hfn hno hm
        go_wp2_with fail
        refine (rule_marks _).mono ?_
        rintro e w4 ⟨rfl, hm4, hb4, hz4⟩
        have hlk : (Instr.lookup 160 (.map (some Wi.heap.size)) (.int .i32 (cn : Int)) true).run Tryz.prog w4 = .ok (.tuple #[.int .i64 0, .bool false]) w4 := run_lookup_none true Tryz.underlying160 Tryz.underlying21 rfl hm4 (Tryz.zeroValue3 w4) Hfn.out
        have hl2 := (Array.getElem?_eq_some_iff.1 Hit2.out).1
        have Hm4 := Lib.hid hm4
        have Hz4 := Lib.hid hz4
        clear hm4 hz4
        go_wp2_with fail
        go_roundw
        case rel => exact ⟨pos + wd, by simpa using Hno2.out, (hb4.block _ (by omega)).trans Hit2.out, (hb4.block _ (by omega)).trans hR2, (hb4.block _ (by omega)).trans hX2, hb2.trans (hb4.mono hb2.size)⟩
        case measure =>
          simp only [World.iterPos, (hb4.block _ (by omega)).trans Hit2.out, Hit.out]
          omega
    · have hnx : ∀ ty, (Instr.next (.pointer (some ⟨w.heap.size + 2, 0, none⟩)) true ty).run Tryz.prog wr = _ := fun ty => Lib.run_next_end_at wr (w.heap.size + 2) ⟨s.toArray⟩ pos ty hit (by rw [Hsz.out]; omega)
      have hnone : markI s = none := markI_none s (by rw [List.take_of_length_le hge] at hno; exact hno)
      have hrp : ruleP s ss = none := by unfold ruleP; rw [hnone]
      have Hrp := Lib.hid hrp
      clear hnone hrp hno
      have z0 := frozen_blk hRb 0
      have z1 := frozen_blk hRb 1
      have z2 := frozen_blk hRb 2
      have z3 := frozen_blk hRb 3
      have z4 := frozen_blk hRb 4
      have k0 : wr.cell? ⟨w.heap.size, 0, none⟩ = some (.bool false) := cell_blk hRb 0
      have k1 : wr.cell? ⟨w.heap.size, 1, none⟩ = some (.slice none 0 0) := cell_blk hRb 1
      have k2 : wr.cell? ⟨w.heap.size, 2, none⟩ = some (.bool false) := cell_blk hRb 2
      have k3 : wr.cell? ⟨w.heap.size, 3, none⟩ = some (.slice none 0 0) := cell_blk hRb 3
      have k4 : wr.cell? ⟨w.heap.size, 4, none⟩ = some (.bool false) := cell_blk hRb 4
      go_wp2_with fail
      go_step3
      go_wp2_with fail
      subst hQl
      rw [landed_ret]
      obtain ⟨x0, x1, x2, x3, x4⟩ := set5_cells hRb (.bool false) (.slice none 0 0) (.bool false) (.slice none 0 0) (.bool false)
      refine bodyPost_ret (v := .tuple #[.agg #[.bool false, .slice none 0 0, .bool false, .slice none 0 0, .bool false], .iface 180 (.agg #[.int .i64 0, .int .i64 90])]) (by simp [results, Tryz.results119, go_sem, x0, x1, x2, x3, x4]) rfl ⟨by rw [Hrp.out]; rfl, below_set5 hbr (Nat.le_refl _) _ _ _ _ _⟩
end Go.Vir

/- Rules in a row that grows: their cells, and where their items lie. -/
namespace Go.Vir
open Go Go.RowKit Go.Proofs Go.Shelf
attribute [local go_sem] Oper.semAt_some

def ruleCs (x : RuleV) (Al : Option Addr) (ml cl : Nat) (Ar : Option Addr) (mr cr : Nat) : List Value := [.bool x.sl, .slice Al ml cl, .bool x.sr, .slice Ar mr cr, .bool x.br]
/-- Items that lie from F on, in another block than g. -/
def Off (F : Nat) (g : Option Nat) (A : Option Addr) (n : Nat) : Prop := 0 < n → ∃ b o, A = some ⟨b, o, none⟩ ∧ F ≤ b ∧ some b ≠ g
/-- The cells of rules, whose items lie from F on below B, in other blocks than g. -/
def RVs (w : World) (B F : Nat) (g : Option Nat) : List RuleV → List Value → Prop
  | [], xs => xs = []
  | x :: rs, xs => ∃ Al ml cl Ar mr cr ys, xs = ruleCs x Al ml cl Ar mr cr ++ ys ∧ RuleM w B x Al ml cl Ar mr cr ∧ Off F g Al ml ∧ Off F g Ar mr ∧ RVs w B F g rs ys

section
variable {w w' : World} {B B' F : Nat} {g : Option Nat}

theorem Prs.kept {A : Option Addr} {n : Nat} {ps : List (Int × Int)} (h : Prs w B A n ps) (hf : Off F g A n) (hk : ∀ k, F ≤ k → k < B → some k ≠ g → w'.heap[k]? = w.heap[k]?) (hB : B ≤ B') : Prs w' B' A n ps :=
  ⟨h.len, fun hn => by
    obtain ⟨b, o, e, hlt, hc⟩ := h.at_ hn
    obtain ⟨b', o', e', hF, hg⟩ := hf hn
    rw [e] at e'
    obtain ⟨rfl, rfl⟩ : b = b' ∧ o = o' := by simpa using e'
    exact ⟨b, o, e, by omega, fun j hj => ⟨(World.cell?_of_block (a := ⟨b, o + j * 2, none⟩) (hk b hF hlt hg)).trans (hc j hj).1, (World.cell?_of_block (a := ⟨b, o + j * 2 + 1, none⟩) (hk b hF hlt hg)).trans (hc j hj).2⟩⟩⟩
theorem RuleM.kept {x : RuleV} {Al Ar : Option Addr} {ml cl mr cr : Nat} (h : RuleM w B x Al ml cl Ar mr cr) (hl : Off F g Al ml) (hr : Off F g Ar mr) (hk : ∀ k, F ≤ k → k < B → some k ≠ g → w'.heap[k]? = w.heap[k]?) (hB : B ≤ B') :
    RuleM w' B' x Al ml cl Ar mr cr := ⟨h.left.kept hl hk hB, h.right.kept hr hk hB, h.lb, h.rb⟩
theorem RVs.keep : ∀ {rs : List RuleV} {xs : List Value}, RVs w B F g rs xs → (∀ k, F ≤ k → k < B → some k ≠ g → w'.heap[k]? = w.heap[k]?) → B ≤ B' → RVs w' B' F g rs xs
  | [], _, h, _, _ => h
  | _ :: _, _, ⟨Al, ml, cl, Ar, mr, cr, ys, e, hm, hl, hr, ht⟩, hk, hB => ⟨Al, ml, cl, Ar, mr, cr, ys, e, hm.kept hl hr hk hB, hl, hr, ht.keep hk hB⟩
theorem RVs.below {rs : List RuleV} {xs : List Value} (h : RVs w B F g rs xs) (hb : Below B w w') (hB : B ≤ B') : RVs w' B' F g rs xs := h.keep (fun k _ hk _ => hb.block k hk) hB
theorem Off.move {A : Option Addr} {n : Nat} {ps : List (Int × Int)} (h : Off F g A n) (hp : Prs w B A n ps) {g' : Option Nat} (hg : g' = g ∨ ∃ k, B ≤ k ∧ g' = some k) : Off F g' A n := fun hn => by
  obtain ⟨b, o, e, hF, hne⟩ := h hn
  obtain ⟨b', o', e', hlt, _⟩ := hp.at_ hn
  rw [e] at e'
  obtain ⟨rfl, rfl⟩ : b = b' ∧ o = o' := by simpa using e'
  refine ⟨b, o, e, hF, ?_⟩
  rcases hg with rfl | ⟨k, hk, rfl⟩
  · exact hne
  · simp; omega
theorem RVs.move {g' : Option Nat} (hg : g' = g ∨ ∃ k, B ≤ k ∧ g' = some k) : ∀ {rs : List RuleV} {xs : List Value}, RVs w B F g rs xs → RVs w B F g' rs xs
  | [], _, h => h
  | _ :: _, _, ⟨Al, ml, cl, Ar, mr, cr, ys, e, hm, hl, hr, ht⟩ => ⟨Al, ml, cl, Ar, mr, cr, ys, e, hm, hl.move hm.left hg, hr.move hm.right hg, ht.move hg⟩
theorem RVs.snoc {x : RuleV} {Al Ar : Option Addr} {ml cl mr cr : Nat} (hm : RuleM w B x Al ml cl Ar mr cr) (hl : Off F g Al ml) (hr : Off F g Ar mr) : ∀ {rs : List RuleV} {xs : List Value}, RVs w B F g rs xs → RVs w B F g (rs ++ [x]) (xs ++ ruleCs x Al ml cl Ar mr cr)
  | [], _, h => by
    have h' : _ = [] := h
    subst h'
    exact ⟨Al, ml, cl, Ar, mr, cr, [], by simp, hm, hl, hr, rfl⟩
  | _ :: _, _, ⟨Al', ml', cl', Ar', mr', cr', ys, e, hm', hl', hr', ht⟩ => ⟨Al', ml', cl', Ar', mr', cr', ys ++ ruleCs x Al ml cl Ar mr cr, by rw [e, List.append_assoc], hm', hl', hr', ht.snoc hm hl hr⟩
theorem RVs.get : ∀ {rs : List RuleV} {xs : List Value}, RVs w B F g rs xs → ∀ (j : Nat) (h : j < rs.length), ∃ Al ml cl Ar mr cr, RuleM w B rs[j] Al ml cl Ar mr cr ∧
    xs[j * 5]? = some (.bool rs[j].sl) ∧ xs[j * 5 + 1]? = some (.slice Al ml cl) ∧ xs[j * 5 + 2]? = some (.bool rs[j].sr) ∧ xs[j * 5 + 3]? = some (.slice Ar mr cr) ∧ xs[j * 5 + 4]? = some (.bool rs[j].br)
  | [], _, _, j, h => absurd h (by simp)
  | x :: rs, _, ⟨Al, ml, cl, Ar, mr, cr, ys, e, hm, hl, hr, ht⟩, 0, h => ⟨Al, ml, cl, Ar, mr, cr, hm, by subst e; exact ⟨rfl, rfl, rfl, rfl, rfl⟩⟩
  | x :: rs, _, ⟨Al, ml, cl, Ar, mr, cr, ys, e, hm, hl, hr, ht⟩, j + 1, h => by
    obtain ⟨Al', ml', cl', Ar', mr', cr', hm', h0, h1, h2, h3, h4⟩ := ht.get j (by simpa using h)
    have key : ∀ i, (ruleCs x Al ml cl Ar mr cr ++ ys)[(j + 1) * 5 + i]? = ys[j * 5 + i]? := fun i => by
      rw [List.getElem?_append_right (by simp [ruleCs]; omega)]
      congr 1
      simp [ruleCs]; omega
    subst e
    exact ⟨Al', ml', cl', Ar', mr', cr', hm', (key 0).trans h0, (key 1).trans h1, (key 2).trans h2, (key 3).trans h3, (key 4).trans h4⟩
theorem RVs.len : ∀ {rs : List RuleV} {xs : List Value}, RVs w B F g rs xs → xs.length = rs.length * 5
  | [], _, h => by
    have h' : _ = [] := h
    subst h'; rfl
  | _ :: _, _, ⟨Al, ml, cl, Ar, mr, cr, ys, e, _, _, _, ht⟩ => by
    subst e; simp [ruleCs, ht.len]; omega

theorem rls_own {W : World} {base : Nat} {v : Value} {rs : List RuleV} {xs : List Value} (h : W.ownsRow base 99 5 v rs.length xs) (hr : RVs W B F g rs xs) (hB : B ≤ W.heap.size) :
    ∃ A n c, v = .slice A n c ∧ n = rs.length ∧ n ≤ c ∧ Rls W W.heap.size A n rs := by
  rcases h.2 with ⟨rfl, h0⟩ | ⟨gb, cap, cur, rfl, _, hg, hc, _, _, ht⟩
  · have : rs = [] := List.eq_nil_of_length_eq_zero h0
    subst this
    exact ⟨none, 0, 0, rfl, rfl, Nat.le_refl _, Rls.nil _ _ _⟩
  · refine ⟨_, _, cap, rfl, rfl, hc, rfl, fun h0 => ⟨gb, 0, rfl, (Array.getElem?_eq_some_iff.1 hg).1, fun j hj => ?_⟩⟩
    obtain ⟨Al, ml, cl, Ar, mr, cr, hm, h0, h1, h2, h3, h4⟩ := hr.get j hj
    have key : ∀ i u, i < 5 → xs[j * 5 + i]? = some u → W.cell? ⟨gb, 0 + j * 5 + i, none⟩ = some u := fun i u hi hx => by
      rw [cell_blk hg, Nat.zero_add]
      rw [← ht, List.getElem?_take] at hx
      split at hx
      · simpa using hx
      · cases hx
    exact ⟨Al, ml, cl, Ar, mr, cr, key 0 _ (by omega) h0, key 1 _ (by omega) h1, key 2 _ (by omega) h2, key 3 _ (by omega) h3, key 4 _ (by omega) h4, hm.more hB⟩
end

theorem ruleCs_one (x : RuleV) (Al : Option Addr) (ml cl : Nat) (Ar : Option Addr) (mr cr : Nat) : ∀ u ∈ ruleCs x Al ml cl Ar mr cr, u.oneCell' = true := by
  intro u hu
  simp only [ruleCs, List.mem_cons, List.not_mem_nil, or_false] at hu
  rcases hu with rfl | rfl | rfl | rfl | rfl <;> rfl
theorem cell_five_new (W : World) (x y z u v : Value) (t : TypeId) : ∀ (j : Nat) (q : Value), [x, y, z, u, v][j]? = some q → (W.alloc (.cells #[x, y, z, u, v] t)).cell? ((⟨W.heap.size, 0, none⟩ : Addr).add j) = some q := by
  have e : (W.alloc (.cells #[x, y, z, u, v] t)).heap[W.heap.size]? = some (.cells #[x, y, z, u, v] t (0, 0)) := heap_new rfl
  intro j q hj
  match j, hj with
  | 0, hj => exact (cell_blk e 0).trans (by simpa using hj)
  | 1, hj => exact (cell_blk e 1).trans (by simpa using hj)
  | 2, hj => exact (cell_blk e 2).trans (by simpa using hj)
  | 3, hj => exact (cell_blk e 3).trans (by simpa using hj)
  | 4, hj => exact (cell_blk e 4).trans (by simpa using hj)

theorem rule_info : (Tryz.prog.info? 99).map (fun i => (i.zero, i.size, i.bytes)) = some (some (.agg #[.bool false, .slice none 0 0, .bool false, .slice none 0 0, .bool false]), 5, 72) := by kernel_rfl

/-- As step_append_mine; and where the row lies behind it. -/
theorem step_append_where {P : Program} {ops : Array Oper} {o : Oper} {a : Act} {w : World} {K : Act → World → Prop} {Q : Exit → Act → World → Prop} {E : Prop}
    (hg : o.guard = none) (s x : Operand) (t : TypeId) (hop : o.op = Op.call { callee := Callee.builtin Builtin.append, args := #[s, x], argTypes := #[t, t] })
    (base : Nat) (e : TypeId) (i : TypeInfo) (z : Value) (size bytes : Nat) (h1 : P.underlying t = some (.slice e)) (h2 : P.info? e = some i) (h3 : i.zero = some z) (h4 : i.size = size) (h5 : i.bytes = bytes) (h6 : z.cells.size = size) (h7 : 0 < size)
    (v : Value) (n : Nat) (xs : List Value) (hs : a.eval s = v) (hown : w.ownsRow base e size v n xs)
    (ad : Addr) (m c : Nat) (news : List Value) (hx : a.eval x = .slice (some ad) m c) (hn : news.length = m * size) (hc : ∀ j u, news[j]? = some u → w.cell? (ad.add j) = some u) (h1c : ∀ u ∈ news, u.oneCell' = true)
    (b1 : n + m ≤ maxLen) (b2 : (n + m) * bytes ≤ 140737488355328) (hbase : base ≤ w.heap.size)
    (hK : ∀ v' w', w'.ownsRow base e size v' (n + m) (xs ++ news) → w.grownBy w' v.ownBlock → (v'.ownBlock = v.ownBlock ∨ v'.ownBlock = some w.heap.size) → K (a.put o.dst v') w') :
    if Region.wanted o (yielded ops a.tmps) = true then Oper.wp P o a w K Q else E := by
  have hw : Region.wanted o (yielded ops a.tmps) = true := by simp [Region.wanted, hg]
  rw [if_pos hw]
  obtain ⟨v', w', hrun, r1, r2, _, r3⟩ := run_append_own_at (P := P) w base t o.type e i z size bytes h1 h2 h3 h4 h5 h6 h7 v n xs hown ad m c news hn hc h1c b1 b2 hbase
  unfold Oper.wp
  simp [execOp, hop, resolve, invoke, builtin, hs, hx, hrun, Result.andThen]
  exact hK v' w' r1 r2 r3
end Go.Vir

/- viramalaw11: Few, list, cut; rules that come in. -/
namespace Go.Vir
open Go Go.RowKit Go.Proofs Go.Shelf
attribute [local go_sem] Oper.semAt_some

/-- A rule that comes in, at a place. -/
def RuleAtI (w : World) (B b o : Nat) (x : RuleV) : Prop :=
  ∃ Al ml cl Ar mr cr, w.cell? ⟨b, o, none⟩ = some (.bool x.sl) ∧ w.cell? ⟨b, o + 1, none⟩ = some (.slice Al ml cl) ∧ w.cell? ⟨b, o + 2, none⟩ = some (.bool x.sr) ∧ w.cell? ⟨b, o + 3, none⟩ = some (.slice Ar mr cr) ∧
    w.cell? ⟨b, o + 4, none⟩ = some (.bool x.br) ∧ Prs w B Al ml x.xl ∧ Prs w B Ar mr x.xr ∧ ml ≤ cl ∧ mr ≤ cr
/-- Rules that come in. -/
structure RlsI (w : World) (B : Nat) (A : Option Addr) (n : Nat) (rs : List RuleV) : Prop where
  len : rs.length = n
  at_ : 0 < n → ∃ b o, A = some ⟨b, o, none⟩ ∧ b < B ∧ ∀ (j : Nat) (h : j < rs.length), RuleAtI w B b (o + j * 5) rs[j]
section
variable {w w' : World} {B B' n : Nat} {A : Option Addr}
theorem RuleAtI.below {x : RuleV} {b o : Nat} (h : RuleAtI w B b o x) (hb : Below B w w') (hlt : b < B) : RuleAtI w' B b o x := by
  obtain ⟨Al, ml, cl, Ar, mr, cr, c0, c1, c2, c3, c4, hl, hr, h1, h2⟩ := h
  exact ⟨Al, ml, cl, Ar, mr, cr, (cellOf hb hlt).trans c0, (cellOf hb hlt).trans c1, (cellOf hb hlt).trans c2, (cellOf hb hlt).trans c3, (cellOf hb hlt).trans c4, hl.below hb, hr.below hb, h1, h2⟩
theorem RuleAtI.more {x : RuleV} {b o : Nat} (h : RuleAtI w B b o x) (hB : B ≤ B') : RuleAtI w B' b o x := by
  obtain ⟨Al, ml, cl, Ar, mr, cr, c0, c1, c2, c3, c4, hl, hr, h1, h2⟩ := h
  exact ⟨Al, ml, cl, Ar, mr, cr, c0, c1, c2, c3, c4, hl.more hB, hr.more hB, h1, h2⟩
theorem RlsI.below {rs : List RuleV} (h : RlsI w B A n rs) (hb : Below B w w') : RlsI w' B A n rs :=
  ⟨h.len, fun hn => let ⟨b, o, e, hlt, hc⟩ := h.at_ hn; ⟨b, o, e, hlt, fun j hj => (hc j hj).below hb hlt⟩⟩
theorem RlsI.more {rs : List RuleV} (h : RlsI w B A n rs) (hB : B ≤ B') : RlsI w B' A n rs :=
  ⟨h.len, fun hn => let ⟨b, o, e, hlt, hc⟩ := h.at_ hn; ⟨b, o, e, by omega, fun j hj => (hc j hj).more hB⟩⟩
theorem RlsI.nil (w : World) (B : Nat) (A : Option Addr) : RlsI w B A 0 [] := ⟨rfl, fun h => absurd h (by omega)⟩
theorem RlsI.take {rs : List RuleV} (h : RlsI w B A n rs) (k : Nat) (hk : k ≤ n) : RlsI w B A k (rs.take k) := by
  refine ⟨by rw [List.length_take, h.len]; omega, fun h0 => ?_⟩
  obtain ⟨b, o, e, hlt, hc⟩ := h.at_ (by omega)
  refine ⟨b, o, e, hlt, fun j hj => ?_⟩
  rw [List.getElem_take]
  exact hc j (by rw [List.length_take] at hj; omega)
end

def cutR (x : RuleV) : RuleV := { x with xl := x.xl.take 12, xr := x.xr.take 12 }
def fewR (rs : List RuleV) : List RuleV := (rs.take 42).map cutR
theorem fewR_len (rs : List RuleV) : (fewR rs).length = min 42 rs.length := by simp [fewR]
theorem fewR_succ {rs : List RuleV} {k : Nat} (h : k < rs.length) (h42 : k < 42) : fewR (rs.take (k + 1)) = fewR (rs.take k) ++ [cutR rs[k]] := by
  unfold fewR
  rw [List.take_take, List.take_take, show min 42 (k + 1) = k + 1 by omega, show min 42 k = k by omega, List.take_succ_eq_append_getElem h, List.map_append]
  rfl
theorem prs_off {w : World} {B n : Nat} {A : Option Addr} {ps : List (Int × Int)} (h : Prs w B A n ps) : Off 0 none A n := fun hn => by
  obtain ⟨b, o, e, _, _⟩ := h.at_ hn
  exact ⟨b, o, e, Nat.zero_le _, by simp⟩

theorem law11_cut (s : List UInt8) (w : World) (hs : s.length ≤ 9223372036854775807) : Calls Tryz.prog 36 #[.string ⟨s.toArray⟩] w fun e w' => e = .returned (.string ⟨(s.take 600).toArray⟩) ∧ w = w' := by
  go_enter Tryz.func36, Tryz.ntmps36
  go_wp2_with fail
  go_ret
  refine ⟨?_, rfl⟩
  simp only [show (min (s.length : Int) 600).toNat = min s.length 600 by omega, text_cut]
  rw [show s.take (min s.length 600) = s.take 600 by rw [Nat.min_comm, ← List.take_take, List.take_length]]
  rfl

/-- How the first rules come. -/
def FewEnd (rs : List RuleV) (e : Ending) (w' : World) : Prop := ∃ A n c, e = .returned (.slice A n c) ∧ n = rs.length ∧ n ≤ c ∧ Rls w' w'.heap.size A n rs ∧ n ≤ 42
def FewEndN (rs : List RuleV) (e : Ending) (w' : World) : Prop := ∃ A n c, e = .returned (.slice A n c) ∧ n = rs.length ∧ n ≤ c ∧ Rls w' w'.heap.size A n rs ∧ n ≤ 42 ∧ (A = none → n = 0 ∧ c = 0)
theorem own_none {W : World} {base size n c m : Nat} {e : TypeId} {A : Option Addr} {xs : List Value} (h : W.ownsRow base e size (.slice A n c) m xs) (hA : A = none) : n = 0 ∧ c = 0 := by
  subst hA
  rcases h.2 with ⟨h1, _⟩ | ⟨g, cap, cur, h1, _⟩
  · injection h1 with _ h2 h3; exact ⟨h2, h3⟩
  · injection h1 with h2 _ _; cases h2

set_option maxRecDepth 100000 in
set_option maxHeartbeats 4000000 in
theorem law11_FewN (A : Option Addr) (n c : Nat) (rs : List RuleV) (w : World) (hx : RlsI w w.heap.size A n rs) :
    Calls Tryz.prog 32 #[.slice A n c] w fun e w' => FewEndN (fewR rs) e w' ∧ Below w.heap.size w w' := by
  have Hlen := Lib.hid hx.len
  obtain ⟨i0, hi0, hz0, hz1, hz2⟩ := info_parts rule_info
  go_enter Tryz.func32, Tryz.ntmps32
  go_wp2_with fail
  go_loopw [3, 4] (fun v0 i wr => ∃ (k : Nat) (v : Value) (xs : List Value), v = v0 ∧ k ≤ n ∧ k ≤ 42 ∧ i = .int .i64 (k : Int) ∧ wr.ownsRow w.heap.size 99 5 v k xs ∧ RVs wr w.heap.size 0 none (fewR (rs.take k)) xs ∧ Below w.heap.size w wr) (fun _ i _ => n - (RowKit.intOf i).toNat)
  case atStart => exact ⟨0, _, [], rfl, Nat.zero_le _, Nat.zero_le _, rfl, World.ownsRow_nil _ _ _ _, by simp [fewR, RVs], Below.refl _ _⟩
  case round =>
    obtain ⟨k, v, xs, rfl, hk, hk42, rfl, hown, hrv, hbr⟩ := hrel
    rcases Nat.lt_or_ge k (min n 42) with hlt | hge
    · have hlt1 : k < n := by omega
      have hlt2 : k < 42 := by omega
      obtain ⟨rb, ro, rfl, hrb, hrc⟩ := hx.at_ (by omega)
      have hkr : k < rs.length := by rw [Hlen.out]; exact hlt1
      have Hsucc := Lib.hid (fewR_succ hkr hlt2)
      obtain ⟨Al, ml, cl, Ar, mr, cr, y0, y1, y2, y3, y4, hl, hr, hml, hmr⟩ := hrc k hkr
      generalize rs[k] = x at *
      obtain ⟨sl, xl, sr, xr, br⟩ := x
      simp only at y0 y1 y2 y3 y4 hl hr
      have y0r := (cellOf hbr hrb).trans y0
      have y1r := (cellOf hbr hrb).trans y1
      have y2r := (cellOf hbr hrb).trans y2
      have y3r := (cellOf hbr hrb).trans y3
      have y4r := (cellOf hbr hrb).trans y4
      have hv0 : Below w.heap.size w wr.drew := hbr.drew
      have gv0 : Below wr.heap.size wr wr.drew := (Below.refl _ _).drew
      have Hlt := Lib.hid hown.lt
      have Hrv := Lib.hid hrv
      have Hl := Lib.hid hl
      have Hr := Lib.hid hr
      clear hrc hl hr hrv
      go_upto_region 5 with fail
      refine wp_region_noPanic ?_
      refine wp_region_held_drew (S := (fun V => V.cell? ⟨rb, ro + k * 5, none⟩ = some (.bool sl) ∧ V.cell? ⟨rb, ro + k * 5 + 1, none⟩ = some (.slice Al ml cl) ∧ V.cell? ⟨rb, ro + k * 5 + 2, none⟩ = some (.bool sr) ∧ V.cell? ⟨rb, ro + k * 5 + 3, none⟩ = some (.slice Ar mr cr) ∧ V.cell? ⟨rb, ro + k * 5 + 4, none⟩ = some (.bool br))) (by kernel_rfl) ⟨(cell_drew _ _).trans y0r, (cell_drew _ _).trans y1r, (cell_drew _ _).trans y2r, (cell_drew _ _).trans y3r, (cell_drew _ _).trans y4r⟩ (fun hHeld => ?_)
      refine wpAnyH_take (i := 0) (v := v) rfl (by kernel_rfl) (by kernel_rfl) (by kernel_rfl) (fun _ _ _ h => h) (.inl ⟨by rfl, fun V hV => by obtain ⟨c0, c1, c2, c3, c4⟩ := hV; go_simp⟩) hHeld ?_
      try simp only [Act.put, List.getElem_toArray, List.getElem_cons_zero, List.setIfInBounds_toArray, List.set_cons_zero, List.set_cons_succ]
      refine wpAnyH_take (i := 1) (v := .slice (some ⟨rb, ro, none⟩) n c) rfl (by kernel_rfl) (by kernel_rfl) (by kernel_rfl) (fun _ _ _ h => h) (.inl ⟨by rfl, fun V hV => by obtain ⟨c0, c1, c2, c3, c4⟩ := hV; go_simp⟩) hHeld ?_
      try simp only [Act.put, List.getElem_toArray, List.getElem_cons_zero, List.getElem_cons_succ, List.setIfInBounds_toArray, List.set_cons_zero, List.set_cons_succ]
      refine wpAnyH_take (i := 2) (v := .int .i64 (k : Int)) rfl (by kernel_rfl) (by kernel_rfl) (by kernel_rfl) (fun _ _ _ h => h) (.inl ⟨by rfl, fun V hV => by obtain ⟨c0, c1, c2, c3, c4⟩ := hV; go_simp⟩) hHeld ?_
      try simp only [Act.put, List.getElem_toArray, List.getElem_cons_zero, List.getElem_cons_succ, List.setIfInBounds_toArray, List.set_cons_zero, List.set_cons_succ]
      refine wpAnyH_take (i := 3) (v := .pointer (some ⟨rb, ro + k * 5, none⟩)) rfl (by kernel_rfl) (by kernel_rfl) (by kernel_rfl) (fun _ _ _ h => h) (.inl ⟨by rfl, fun V hV => by obtain ⟨c0, c1, c2, c3, c4⟩ := hV; go_simp⟩) hHeld ?_
      try simp only [Act.put, List.getElem_toArray, List.getElem_cons_zero, List.getElem_cons_succ, List.setIfInBounds_toArray, List.set_cons_zero, List.set_cons_succ]
      refine wpAnyH_take (i := 4) (v := .pointer (some ⟨rb, ro + k * 5, none⟩)) rfl (by kernel_rfl) (by kernel_rfl) (by kernel_rfl) (fun _ _ _ h => h) (.inl ⟨by rfl, fun V hV => by obtain ⟨c0, c1, c2, c3, c4⟩ := hV; go_simp⟩) hHeld ?_
      try simp only [Act.put, List.getElem_toArray, List.getElem_cons_zero, List.getElem_cons_succ, List.setIfInBounds_toArray, List.set_cons_zero, List.set_cons_succ]
      refine wpAnyH_take (i := 5) (v := .agg #[.bool sl, .slice Al ml cl]) rfl (by kernel_rfl) (by kernel_rfl) (by kernel_rfl) (fun _ _ _ h => h) (.inl ⟨by rfl, fun V hV => by obtain ⟨c0, c1, c2, c3, c4⟩ := hV; go_simp⟩) hHeld ?_
      try simp only [Act.put, List.getElem_toArray, List.getElem_cons_zero, List.getElem_cons_succ, List.setIfInBounds_toArray, List.set_cons_zero, List.set_cons_succ]
      refine wpAnyH_take (i := 7) (v := .slice (some ⟨rb, ro, none⟩) n c) rfl (by kernel_rfl) (by kernel_rfl) (by kernel_rfl) (fun _ _ _ h => h) (.inl ⟨by rfl, fun V hV => by obtain ⟨c0, c1, c2, c3, c4⟩ := hV; go_simp⟩) hHeld ?_
      try simp only [Act.put, List.getElem_toArray, List.getElem_cons_zero, List.getElem_cons_succ, List.setIfInBounds_toArray, List.set_cons_zero, List.set_cons_succ]
      refine wpAnyH_take (i := 8) (v := .int .i64 (k : Int)) rfl (by kernel_rfl) (by kernel_rfl) (by kernel_rfl) (fun _ _ _ h => h) (.inl ⟨by rfl, fun V hV => by obtain ⟨c0, c1, c2, c3, c4⟩ := hV; go_simp⟩) hHeld ?_
      try simp only [Act.put, List.getElem_toArray, List.getElem_cons_zero, List.getElem_cons_succ, List.setIfInBounds_toArray, List.set_cons_zero, List.set_cons_succ]
      refine wpAnyH_take (i := 9) (v := .pointer (some ⟨rb, ro + k * 5, none⟩)) rfl (by kernel_rfl) (by kernel_rfl) (by kernel_rfl) (fun _ _ _ h => h) (.inl ⟨by rfl, fun V hV => by obtain ⟨c0, c1, c2, c3, c4⟩ := hV; go_simp⟩) hHeld ?_
      try simp only [Act.put, List.getElem_toArray, List.getElem_cons_zero, List.getElem_cons_succ, List.setIfInBounds_toArray, List.set_cons_zero, List.set_cons_succ]
      refine wpAnyH_take (i := 10) (v := .pointer (some ⟨rb, ro + k * 5 + 2, none⟩)) rfl (by kernel_rfl) (by kernel_rfl) (by kernel_rfl) (fun _ _ _ h => h) (.inl ⟨by rfl, fun V hV => by obtain ⟨c0, c1, c2, c3, c4⟩ := hV; go_simp⟩) hHeld ?_
      try simp only [Act.put, List.getElem_toArray, List.getElem_cons_zero, List.getElem_cons_succ, List.setIfInBounds_toArray, List.set_cons_zero, List.set_cons_succ]
      refine wpAnyH_take (i := 11) (v := .agg #[.bool sr, .slice Ar mr cr]) rfl (by kernel_rfl) (by kernel_rfl) (by kernel_rfl) (fun _ _ _ h => h) (.inl ⟨by rfl, fun V hV => by obtain ⟨c0, c1, c2, c3, c4⟩ := hV; go_simp⟩) hHeld ?_
      try simp only [Act.put, List.getElem_toArray, List.getElem_cons_zero, List.getElem_cons_succ, List.setIfInBounds_toArray, List.set_cons_zero, List.set_cons_succ]
      refine wpAnyH_take (i := 13) (v := .slice (some ⟨rb, ro, none⟩) n c) rfl (by kernel_rfl) (by kernel_rfl) (by kernel_rfl) (fun _ _ _ h => h) (.inl ⟨by rfl, fun V hV => by obtain ⟨c0, c1, c2, c3, c4⟩ := hV; go_simp⟩) hHeld ?_
      try simp only [Act.put, List.getElem_toArray, List.getElem_cons_zero, List.getElem_cons_succ, List.setIfInBounds_toArray, List.set_cons_zero, List.set_cons_succ]
      refine wpAnyH_take (i := 14) (v := .int .i64 (k : Int)) rfl (by kernel_rfl) (by kernel_rfl) (by kernel_rfl) (fun _ _ _ h => h) (.inl ⟨by rfl, fun V hV => by obtain ⟨c0, c1, c2, c3, c4⟩ := hV; go_simp⟩) hHeld ?_
      try simp only [Act.put, List.getElem_toArray, List.getElem_cons_zero, List.getElem_cons_succ, List.setIfInBounds_toArray, List.set_cons_zero, List.set_cons_succ]
      refine wpAnyH_take (i := 15) (v := .pointer (some ⟨rb, ro + k * 5, none⟩)) rfl (by kernel_rfl) (by kernel_rfl) (by kernel_rfl) (fun _ _ _ h => h) (.inl ⟨by rfl, fun V hV => by obtain ⟨c0, c1, c2, c3, c4⟩ := hV; go_simp⟩) hHeld ?_
      try simp only [Act.put, List.getElem_toArray, List.getElem_cons_zero, List.getElem_cons_succ, List.setIfInBounds_toArray, List.set_cons_zero, List.set_cons_succ]
      refine wpAnyH_take (i := 16) (v := .pointer (some ⟨rb, ro + k * 5 + 4, none⟩)) rfl (by kernel_rfl) (by kernel_rfl) (by kernel_rfl) (fun _ _ _ h => h) (.inl ⟨by rfl, fun V hV => by obtain ⟨c0, c1, c2, c3, c4⟩ := hV; go_simp⟩) hHeld ?_
      try simp only [Act.put, List.getElem_toArray, List.getElem_cons_zero, List.getElem_cons_succ, List.setIfInBounds_toArray, List.set_cons_zero, List.set_cons_succ]
      refine wpAnyH_take (i := 17) (v := .bool br) rfl (by kernel_rfl) (by kernel_rfl) (by kernel_rfl) (fun _ _ _ h => h) (.inl ⟨by rfl, fun V hV => by obtain ⟨c0, c1, c2, c3, c4⟩ := hV; go_simp⟩) hHeld ?_
      try simp only [Act.put, List.getElem_toArray, List.getElem_cons_zero, List.getElem_cons_succ, List.setIfInBounds_toArray, List.set_cons_zero, List.set_cons_succ]
      refine wpAnyH_ready (rs := [6]) (by kernel_rfl) (by simp) ?_
      refine AllReadyH.cons rfl (fun K hK => ?_) AllReadyH.nil
      go_simp
      refine (law_Cut sl Al ml cl _ (by omega)).mono ?_
      rintro e v1 ⟨rfl, hc⟩
      have hv1 : Below w.heap.size w v1 := Below.trans hv0 (hc.mono (by have := hv0.size; exact this))
      have gv1 : Below wr.heap.size wr v1 := Below.trans gv0 (hc.mono gv0.size)
      have qv10 := (cellOf hv1 hrb).trans y0
      have qv11 := (cellOf hv1 hrb).trans y1
      have qv12 := (cellOf hv1 hrb).trans y2
      have qv13 := (cellOf hv1 hrb).trans y3
      have qv14 := (cellOf hv1 hrb).trans y4
      refine hK.out _ _ ⟨qv10, qv11, qv12, qv13, qv14⟩ (fun hHeld => ?_)
      clear hK K
      try simp only [Act.put, List.getElem_toArray, List.getElem_cons_zero, List.getElem_cons_succ, List.setIfInBounds_toArray, List.set_cons_zero, List.set_cons_succ]
      refine wpAnyH_ready (rs := [12]) (by kernel_rfl) (by simp) ?_
      refine AllReadyH.cons rfl (fun K hK => ?_) AllReadyH.nil
      go_simp
      refine (law_Cut sr Ar mr cr _ (by omega)).mono ?_
      rintro e v2 ⟨rfl, hc⟩
      have hv2 : Below w.heap.size w v2 := Below.trans hv1 (hc.mono (by have := hv1.size; exact this))
      have gv2 : Below wr.heap.size wr v2 := Below.trans gv1 (hc.mono gv1.size)
      have qv20 := (cellOf hv2 hrb).trans y0
      have qv21 := (cellOf hv2 hrb).trans y1
      have qv22 := (cellOf hv2 hrb).trans y2
      have qv23 := (cellOf hv2 hrb).trans y3
      have qv24 := (cellOf hv2 hrb).trans y4
      refine hK.out _ _ ⟨qv20, qv21, qv22, qv23, qv24⟩ (fun hHeld => ?_)
      clear hK K
      try simp only [Act.put, List.getElem_toArray, List.getElem_cons_zero, List.getElem_cons_succ, List.setIfInBounds_toArray, List.set_cons_zero, List.set_cons_succ]
      refine wpAnyH_take (i := 18) (v := .agg #[.bool sl, .slice Al (min ml 12) cl, .bool sr, .slice Ar (min mr 12) cr, .bool br]) rfl (by kernel_rfl) (by kernel_rfl) (by kernel_rfl) (fun _ _ _ h => h) (.inl ⟨by rfl, fun V hV => by obtain ⟨c0, c1, c2, c3, c4⟩ := hV; go_simp⟩) hHeld ?_
      try simp only [Act.put, List.getElem_toArray, List.getElem_cons_zero, List.getElem_cons_succ, List.setIfInBounds_toArray, List.set_cons_zero, List.set_cons_succ]
      refine wpAnyH_ready (rs := [19]) (by kernel_rfl) (by simp) ?_
      refine AllReadyH.cons rfl (fun K hK => ?_) AllReadyH.nil
      go_simp
      have hv3 : Below w.heap.size w (v2.alloc (.cells #[.bool sl, .slice Al (min ml 12) cl, .bool sr, .slice Ar (min mr 12) cr, .bool br] 99)) := hv2.alloc hv2.size _
      have qa0 := (cellOf hv3 hrb).trans y0
      have qa1 := (cellOf hv3 hrb).trans y1
      have qa2 := (cellOf hv3 hrb).trans y2
      have qa3 := (cellOf hv3 hrb).trans y3
      have qa4 := (cellOf hv3 hrb).trans y4
      refine hK.out _ _ ⟨qa0, qa1, qa2, qa3, qa4⟩ (fun hHeld => ?_)
      clear hK K
      try simp only [Act.put, List.getElem_toArray, List.getElem_cons_zero, List.getElem_cons_succ, List.setIfInBounds_toArray, List.set_cons_zero, List.set_cons_succ]
      refine wpAnyH_ready (rs := [20]) (by kernel_rfl) (by simp) ?_
      refine AllReadyH.cons rfl (fun K hK => ?_) AllReadyH.nil
      refine step_append_where rfl (.tmp 15) (.tmp 34) 52 rfl w.heap.size 99 i0 (.agg #[.bool false, .slice none 0 0, .bool false, .slice none 0 0, .bool false]) 5 72 Tryz.underlying52 hi0 hz0 hz1 hz2 rfl (by decide) v k xs (by simp [Act.eval]) ((ownsRow_below hown gv2).alloc _) ⟨v2.heap.size, 0, none⟩ 1 1 [.bool sl, .slice Al (min ml 12) cl, .bool sr, .slice Ar (min mr 12) cr, .bool br] (by simp [Act.eval]) rfl (cell_five_new v2 _ _ _ _ _ _) (by intro u hu; exact ruleCs_one { sl := sl, xl := [], sr := sr, xr := [], br := br } Al (min ml 12) cl Ar (min mr 12) cr u hu) (by simp only [maxLen]; omega) (by omega) (by have := hv3.size; exact this) ?_
      intro v3 w8 hown8 hgrow hat
      have h8 : Below w.heap.size w w8 := hv3.grown hgrow hv3.size (fun g hg => (Hlt.out g hg).1)
      have qb0 := (cellOf h8 hrb).trans y0
      have qb1 := (cellOf h8 hrb).trans y1
      have qb2 := (cellOf h8 hrb).trans y2
      have qb3 := (cellOf h8 hrb).trans y3
      have qb4 := (cellOf h8 hrb).trans y4
      refine hK.out _ _ ⟨qb0, qb1, qb2, qb3, qb4⟩ (fun hHeld => ?_)
      clear hK K
      try simp only [Act.put, List.getElem_toArray, List.getElem_cons_zero, List.getElem_cons_succ, List.setIfInBounds_toArray, List.set_cons_zero, List.set_cons_succ]
      refine wpAnyH_take (i := 21) (v := v3) rfl (by kernel_rfl) (by kernel_rfl) (by kernel_rfl) (fun _ _ _ h => h) (.inl ⟨by rfl, fun V hV => by obtain ⟨c0, c1, c2, c3, c4⟩ := hV; go_simp⟩) hHeld ?_
      try simp only [Act.put, List.getElem_toArray, List.getElem_cons_zero, List.getElem_cons_succ, List.setIfInBounds_toArray, List.set_cons_zero, List.set_cons_succ]
      refine wpAnyH_done (by kernel_rfl) ?_ _
      refine NoPanic.normal ?_

      have hrv8 : RVs w8 w.heap.size 0 none (fewR (rs.take (k + 1))) (xs ++ [.bool sl, .slice Al (min ml 12) cl, .bool sr, .slice Ar (min mr 12) cr, .bool br]) := by
        rw [Hsucc.out]
        have xl12 : Prs w8 w.heap.size Al (min ml 12) (xl.take 12) := by
          have := (Hl.out.below h8).take (min ml 12) (by omega)
          rwa [show xl.take (min ml 12) = xl.take 12 by rw [← Hl.out.len, Nat.min_comm, ← List.take_take, List.take_length]] at this
        have xr12 : Prs w8 w.heap.size Ar (min mr 12) (xr.take 12) := by
          have := (Hr.out.below h8).take (min mr 12) (by omega)
          rwa [show xr.take (min mr 12) = xr.take 12 by rw [← Hr.out.len, Nat.min_comm, ← List.take_take, List.take_length]] at this
        have hM : RuleM w8 w.heap.size (cutR { sl := sl, xl := xl, sr := sr, xr := xr, br := br }) Al (min ml 12) cl Ar (min mr 12) cr := ⟨xl12, xr12, by omega, by omega⟩
        have hbr8 : Below w.heap.size wr w8 := (Below.grown (B := w.heap.size) ((gv2.mono hbr.size).alloc hv2.size _) hgrow hv3.size (fun g hg => (Hlt.out g hg).1))
        exact (Hrv.out.below hbr8 (Nat.le_refl _)).snoc hM (prs_off hM.left) (prs_off hM.right)
      go_wp2_with fail
      go_roundw
      case rel => exact ⟨k + 1, _, _, rfl, by omega, by omega, by go_num, hown8, hrv8, h8⟩
      case measure => simp [RowKit.intOf]; omega
    · have hfin : fewR (rs.take k) = fewR rs := by
        unfold fewR
        rw [List.take_take]
        congr 1
        rcases Nat.lt_or_ge n 42 with h | h
        · rw [List.take_of_length_le (by rw [Hlen.out]; omega), List.take_of_length_le (by rw [Hlen.out]; omega)]
        · rw [show min 42 k = 42 by omega]
      rw [hfin] at hrv
      have hkl : (fewR rs).length = k := by rw [fewR_len, Hlen.out]; omega
      rw [← hkl] at hown
      obtain ⟨A', n', c', rfl, hn', hc', hRl⟩ := rls_own hown hrv hbr.size
      have HRl := Lib.hid hRl
      have Hno := Lib.hid (own_none hown)
      have Hn' := Lib.hid hn'
      have Hkl := Lib.hid hkl
      clear hRl hn' hkl hown hrv hfin
      rcases Nat.lt_or_ge k n with h1 | h1
      · have h42 : k = 42 := by omega
        subst h42
        go_wp2_with fail
        go_ret
        exact ⟨⟨A', n', c', rfl, Hn'.out, hc', HRl.out, by rw [Hn'.out, Hkl.out]; omega, Hno.out⟩, hbr⟩
      · go_wp2_with fail
        go_ret
        exact ⟨⟨A', n', c', rfl, Hn'.out, hc', HRl.out, by rw [Hn'.out, Hkl.out]; omega, Hno.out⟩, hbr⟩
theorem law11_Few (A : Option Addr) (n c : Nat) (rs : List RuleV) (w : World) (hx : RlsI w w.heap.size A n rs) :
    Calls Tryz.prog 32 #[.slice A n c] w fun e w' => FewEnd (fewR rs) e w' ∧ Below w.heap.size w w' :=
  (law11_FewN A n c rs w hx).mono fun _ _ ⟨⟨A1, n1, c1, h1, h2, h3, h4, h5, _⟩, hb⟩ => ⟨⟨A1, n1, c1, h1, h2, h3, h4, h5⟩, hb⟩
end Go.Vir

/- rule.Same. -/
namespace Go.Vir
open Go Go.RowKit Go.Proofs Go.Shelf
attribute [local go_sem] Oper.semAt_some

theorem same_rule (x y : RuleV) : decide (x = y) = ((x.br == y.br) && (sameB x.sl y.sl x.xl y.xl && sameB x.sr y.sr x.xr y.xr)) := by
  obtain ⟨sl, xl, sr, xr, br⟩ := x
  obtain ⟨sl2, xl2, sr2, xr2, br2⟩ := y
  rw [Bool.eq_iff_iff]
  simp only [RuleV.mk.injEq, decide_eq_true_eq, sameB, Bool.and_eq_true, beq_iff_eq]
  constructor
  · rintro ⟨a, b, c, d, e⟩; exact ⟨e, ⟨a, b⟩, c, d⟩
  · rintro ⟨e, ⟨a, b⟩, c, d⟩; exact ⟨a, b, c, d, e⟩

set_option maxRecDepth 100000 in
set_option maxHeartbeats 1600000 in
theorem rule_Same1 (x y : RuleV) (Al Ar El Er : Option Addr) (ml cl mr cr nl dl nr dr : Nat) (w : World) (hx : RuleM w w.heap.size x Al ml cl Ar mr cr) (hy : RuleM w w.heap.size y El nl dl Er nr dr) :
    Calls Tryz.prog 79 #[ruleV x Al ml cl Ar mr cr, ruleV y El nl dl Er nr dr] w fun e w' => e = .returned (.bool (decide (x = y))) ∧ Below w.heap.size w w' := by
  rw [same_rule]
  have h1 := fun W (hW : Below w.heap.size w W) => pattern_Same x.sl y.sl Al El ml cl nl dl x.xl y.xl W ((hx.left.below hW).more hW.size) ((hy.left.below hW).more hW.size) hx.lb hy.lb
  have h2 := fun W (hW : Below w.heap.size w W) => pattern_Same x.sr y.sr Ar Er mr cr nr dr x.xr y.xr W ((hx.right.below hW).more hW.size) ((hy.right.below hW).more hW.size) hx.rb hy.rb
  have H1 := Lib.hid h1
  have H2 := Lib.hid h2
  clear h1 h2 hx hy
  obtain ⟨sl, xl, sr, xr, br⟩ := x
  obtain ⟨sl2, xl2, sr2, xr2, br2⟩ := y
  simp only at H1 H2
  simp only [ruleV]
  generalize sameB sl sl2 xl xl2 = s1 at *
  generalize sameB sr sr2 xr xr2 = s2 at *
  generalize hbb : (br == br2) = bb
  go_enter Tryz.func79, Tryz.ntmps79
  rcases bb with _ | _
  · go_wp2_with fail
    go_ret
    exact ⟨rfl, by go_grown⟩
  · go_wp2_with fail
    refine (H1.out _ (by go_grown)).mono ?_
    rintro e w1 ⟨rfl, hb1⟩
    have hX : w1.heap[w.heap.size]? = some (.cells #[.bool sl, .slice Al ml cl, .bool sr, .slice Ar mr cr, .bool br] 99 (0, 0)) := (hb1.block _ (by simp; omega)).trans ((heap_old (by simp)).trans (heap_new rfl))
    have hY : w1.heap[w.heap.size + 1]? = some (.cells #[.bool sl2, .slice El nl dl, .bool sr2, .slice Er nr dr, .bool br2] 99 (0, 0)) := (hb1.block _ (by simp)).trans (heap_new (by simp))
    have hb2 : Below w.heap.size w w1 := Below.trans (by go_grown) (hb1.mono (by simp; omega))
    have x2 : w1.cell? ⟨w.heap.size, 2, none⟩ = some (.bool sr) := cell_blk hX 2
    have x3 : w1.cell? ⟨w.heap.size, 3, none⟩ = some (.slice Ar mr cr) := cell_blk hX 3
    have y2 : w1.cell? ⟨w.heap.size + 1, 2, none⟩ = some (.bool sr2) := cell_blk hY 2
    have y3 : w1.cell? ⟨w.heap.size + 1, 3, none⟩ = some (.slice Er nr dr) := cell_blk hY 3
    clear hb1 hX hY
    rcases s1 with _ | _
    · go_wp2_with fail
      go_ret
      exact ⟨rfl, hb2⟩
    · go_wp2_with fail
      refine (H2.out _ hb2).mono ?_
      rintro e w2 ⟨rfl, hb3⟩
      go_wp2_with fail
      go_ret
      exact ⟨rfl, hb2.trans (hb3.mono hb2.size)⟩

set_option maxRecDepth 100000 in
set_option maxHeartbeats 1600000 in
theorem equalFunc_rule (A E : Option Addr) (n c m d : Nat) (xs ys : List RuleV) (w : World) (hx : Rls w w.heap.size A n xs) (hy : Rls w w.heap.size E m ys) (hn : n ≤ 1000000) :
    Calls Tryz.prog 78 #[.slice A n c, .slice E m d, .func (.func 79) #[] #[]] w fun e w' => e = .returned (.bool (decide (xs = ys))) ∧ Below w.heap.size w w' := by
  have eg := enters_of Tryz.func79 (by kernel_rfl) rfl
  have hxl := hx.len
  have hyl := hy.len
  by_cases hnm : n = m
  · subst hnm
    have Hxl := Lib.hid hxl
    have Hyl := Lib.hid hyl
    clear hxl hyl
    go_enter Tryz.func78, Tryz.ntmps78
    go_wp2
    go_loopw [17] (fun i wr => ∃ k : Nat, k ≤ n ∧ i = .int .i64 (k : Int) ∧ xs.take k = ys.take k ∧ Below w.heap.size w wr) (fun i _ => n - (RowKit.intOf i).toNat)
    case atStart => exact ⟨0, Nat.zero_le _, rfl, rfl, Below.refl _ _⟩
    case round =>
      obtain ⟨k, hk, rfl, htk, hbr⟩ := hrel
      rcases Nat.lt_or_ge k n with hlt | hge
      · obtain ⟨xb, xo, rfl, hxb, hxc⟩ := hx.at_ (by omega)
        obtain ⟨yb, yo, rfl, hyb, hyc⟩ := hy.at_ (by omega)
        have hkx : k < xs.length := by rw [Hxl.out]; exact hlt
        have hky : k < ys.length := by rw [Hyl.out]; exact hlt
        have hst : xs[k] = ys[k] → xs.take (k + 1) = ys.take (k + 1) := fun e => by
          rw [List.take_succ_eq_append_getElem hkx, List.take_succ_eq_append_getElem hky, htk, e]
        have hne : xs[k] ≠ ys[k] → xs ≠ ys := fun h e => h (by subst e; rfl)
        have Hst := Lib.hid hst
        have Hne := Lib.hid hne
        obtain ⟨Al, ml, cl, Ar, mr, cr, x0, x1, x2, x3, x4, hM⟩ := ((hxc k hkx).below hbr hxb).more hbr.size
        obtain ⟨El, nl, dl, Er, nr, dr, y0, y1, y2, y3, y4, hN⟩ := ((hyc k hky).below hbr hyb).more hbr.size
        have hs1 := fun W (hW : Below wr.heap.size wr W) => rule_Same1 xs[k] ys[k] Al Ar El Er ml cl mr cr nl dl nr dr W ((hM.below hW).more hW.size) ((hN.below hW).more hW.size)
        clear hxc hyc hst hne htk hM hN
        generalize xs[k] = a at *
        generalize ys[k] = b at *
        have hab : decide (a = b) = true ∨ decide (a = b) = false := by cases decide (a = b) <;> simp
        generalize hdd : decide (a = b) = dd at *
        have Hdd := Lib.hid hdd
        obtain ⟨sl, xl, sr, xr, br⟩ := a
        obtain ⟨sl2, xl2, sr2, xr2, br2⟩ := b
        simp only [ruleV] at hs1
        simp only at x0 x1 x2 x3 x4 y0 y1 y2 y3 y4
        have Hs1 := Lib.hid hs1
        have hlw := hbr.size
        have hyb2 : yb < wr.heap.size := by omega
        clear hs1 hdd hab
        go_wp2_with fail
        refine (Hs1.out _ (by go_grown)).mono ?_
        rintro e w1 ⟨rfl, hb1⟩
        have hb2 : Below w.heap.size w w1 := hbr.trans ((Below.trans (by go_grown) (hb1.mono (by simp; omega)) : Below wr.heap.size wr w1).mono hbr.size)
        rcases dd with _ | _
        · have h1 : decide (xs = ys) = false := decide_eq_false (Hne.out (of_decide_eq_false Hdd.out))
          have H1 := Lib.hid h1
          clear h1
          go_wp2_with fail
          go_ret
          exact ⟨ret_bool H1.out.symm, hb2⟩
        · have h2 := Hst.out (of_decide_eq_true Hdd.out)
          have H2 := Lib.hid h2
          clear h2
          go_wp2_with fail
          go_roundw
          case rel => exact ⟨k + 1, by omega, by go_num, H2.out, hb2⟩
          case measure => simp [RowKit.intOf]; omega
      · have h1 : decide (xs = ys) = true := by
          rw [List.take_of_length_le (by rw [Hxl.out]; exact hge), List.take_of_length_le (by rw [Hyl.out]; exact hge)] at htk
          exact decide_eq_true htk
        have H1 := Lib.hid h1
        clear h1 htk
        go_wp2_with fail
        go_ret
        exact ⟨ret_bool H1.out.symm, hbr⟩
  · have h1 : decide (xs = ys) = false := decide_eq_false (fun e => hnm (by rw [← hxl, ← hyl, e]))
    have H1 := Lib.hid h1
    have hne : ((n : Int) != (m : Int)) = true := by rw [bne_iff_ne]; omega
    clear hxl hyl h1
    go_enter Tryz.func78, Tryz.ntmps78
    go_wp2
    go_ret
    exact ⟨ret_bool H1.out.symm, Below.refl _ _⟩

theorem rule_Same (A E : Option Addr) (n c m d : Nat) (xs ys : List RuleV) (w : World) (hx : Rls w w.heap.size A n xs) (hy : Rls w w.heap.size E m ys) (hn : n ≤ 1000000) :
    Calls Tryz.prog 39 #[.slice A n c, .slice E m d] w fun e w' => e = .returned (.bool (decide (xs = ys))) ∧ Below w.heap.size w w' := by
  have hc := equalFunc_rule A E n c m d xs ys w hx hy hn
  have Hc := Lib.hid hc
  clear hc hx hy
  generalize decide (xs = ys) = V at *
  go_enter Tryz.func39, Tryz.ntmps39
  go_wp2_with fail
  refine Hc.out.mono ?_
  rintro e w1 ⟨rfl, hb1⟩
  go_wp2_with fail
  go_ret
  exact ⟨rfl, hb1⟩
end Go.Vir
