/- For every widths, texts and number: what fits is at most so wide, and with one more it is not. (The listed variables are tied to the text.) -/
import Derived.Test.YtjbeaheenfcgdaaGreatDoorBm
import Derived.Test.YtjbeaheenfcgdaaGreatDoorBn
import Derived.Test.YtjbeaheenfcgdaaGreatDoorTie
import Derived.Test.YtjbeaheenfcgdaaGreatDoorCards
/- viramalaw15: WidthFits. -/
namespace Go.Vir
open Go Go.RowKit Go.Proofs Go.Shelf
attribute [local go_sem] Oper.semAt_some

theorem Strs.front {w : World} {B n : Nat} {A : Option Addr} {l : List (List UInt8)} (h : Strs w B A n l) (m : Nat) (hm : m ≤ n) : Strs w B A m (l.take m) := by
  have hl := h.len
  refine ⟨by rw [List.length_take]; omega, fun hn => ?_⟩
  obtain ⟨b, o, e, hb, hc⟩ := h.at_ (by omega)
  refine ⟨b, o, e, hb, fun j hj => ?_⟩
  rw [List.length_take] at hj
  rw [List.getElem_take]
  exact hc j (by omega)

set_option maxRecDepth 100000 in
set_option maxHeartbeats 8000000 in
theorem law_wfits (Ai : Option Addr) (ni ci : Nat) (Ab : Option Addr) (nb cb : Nat) (wd : Bool) (T0 : TrV) (A0 : Option Addr) (n0 c0 : Nat) (ss0 : List (List UInt8)) (r : Int) (p q u p2 q2 : Addr) (w : World) (hG : GloW w p q u p2 q2) (hT : Tri w w.heap.size Ai ni Ab nb T0) (hic : ni ≤ ci) (hni : ni ≤ 9223372036854775807) (hnb : nb ≤ 9223372036854775807)
    (hbs : ∀ b ∈ T0.bl, b.length ≤ 9223372036854775807) (hz0 : Strs w w.heap.size A0 n0 ss0) (hn0 : n0 ≤ 9223372036854775807) :
    Calls Tryz.prog 11 #[.agg #[.slice Ai ni ci, .slice Ab nb cb, .bool wd], .slice A0 n0 c0, .int .i64 r] w fun e w' => e = .returned (.bool true) ∧ Below w.heap.size w w' := by
  obtain ⟨W0, hW0⟩ : ∃ W0, W0 = w.alloc (.cells #[.slice Ai ni ci, .slice Ab nb cb, .bool wd] 42) := ⟨_, rfl⟩
  have hbw0 : Below w.heap.size w W0 := by rw [hW0]; go_grown
  have hx0 : W0.heap[w.heap.size]? = some (.cells #[.slice Ai ni ci, .slice Ab nb cb, .bool wd] 42 (0, 0)) := by rw [hW0]; exact heap_new rfl
  have hlt := (Array.getElem?_eq_some_iff.1 hx0).1
  have H0 := Lib.hid (law15_shown p q u p2 q2 W0 (hG.below hbw0))
  have HG := Lib.hid hG
  have HT := Lib.hid hT
  have Hbs := Lib.hid hbs
  have Hbw0 := Lib.hid hbw0
  have Hx0 := Lib.hid hx0
  have Hz0 := Lib.hid hz0
  clear hG hT hbs hbw0 hx0 hz0
  go_enter Tryz.func11, Tryz.ntmps11
  go_upto_region 1 with fail
  rw [← hW0]
  clear hW0
  go_wp2_with fail
  refine H0.out.mono ?_
  rintro e w1 ⟨rfl, hb1⟩
  have hbw1 := Hbw0.out.trans (hb1.mono Hbw0.out.size)
  have hs1 := hbw1.size
  have hx1 := (hb1.block _ hlt).trans Hx0.out
  have hlt1 := (Array.getElem?_eq_some_iff.1 hx1).1
  have e0 := cell_blk hx1 0
  have e1 := cell_blk hx1 1
  have e2 := cell_blk hx1 2
  have Htab := Lib.hid (law15_Table w.heap.size Ai ni ci Ab nb cb wd T0 w1 (HT.out.below hbw1) hbw1.size hic hnb hni Hbs.out)
  have Hbw1 := Lib.hid hbw1
  have Hx1 := Lib.hid hx1
  clear hbw1 hx1 hb1 H0 Hbw0 Hx0 HT Hbs
  go_wp2_with fail
  refine Htab.out.mono ?_
  rintro e w2 ⟨⟨n2, A2, m2, c2, rfl, hi2, hm2, hn2, hq2, hT2⟩, hb2⟩
  have hbw2 := Hbw1.out.trans (hb2.mono Hbw1.out.size)
  have hx2 := (hb2.block _ hlt1).trans Hx1.out
  have hcb := (cutT_len T0).2.2
  generalize cutT T0 = T at *
  have hcb : ∀ b ∈ T.bl, b.length ≤ 1000000 := fun b hb => by have := hcb b hb; omega
  have Hcb := Lib.hid hcb
  obtain ⟨g1, g2, g3, g4⟩ := widths_stored (.slice Ai n2 ci) (.slice A2 m2 c2) (.bool wd) hx2 hbw2 (Nat.le_refl _)
  have hT3 := (hT2.keep (by rw [g4]; exact Nat.le_refl _) (fun k hk => g3 k (by omega)) (fun k hk _ => g3 k (by omega))).tri (by rw [g4]; exact hbw2.size)
  obtain ⟨w3, hW3⟩ : ∃ w3, w3 = (((w2.setCell ⟨w.heap.size, 0, none⟩ (.slice Ai n2 ci)).setCell ⟨w.heap.size, 1, none⟩ (.slice A2 m2 c2)).setCell ⟨w.heap.size, 2, none⟩ (.bool wd)) := ⟨_, rfl⟩
  rw [← hW3] at g1 g2 hT3
  have hlt := (Array.getElem?_eq_some_iff.1 g1).1
  have hn2 : n2 ≤ 1000000 := by omega
  have hm2 : m2 ≤ 1000000 := by omega
  obtain ⟨e0, e1, e2⟩ := cells3 hx2
  have s0 := frozen_blk hx2 0
  have s1 := frozen_blk hx2 1
  have s2 := frozen_blk hx2 2
  have Hx := Lib.hid g1
  have HT := Lib.hid hT3
  have Hbw := Lib.hid g2
  have hq3 : Below w3.heap.size w3 w3 := Below.refl _ _
  clear g1 g2 g3 g4 hT3 hT2 hcb hx2 hbw2 hb2 hs1 hlt1 Htab Hbw1 Hx1 hi2 hq2
  go_upto_region 3 with fail
  rw [← hW3]
  clear hW3 e0 e1 e2 s0 s1 s2
  have e0 := cell_blk Hx.out 0
  have e1 := cell_blk Hx.out 1
  have e2 := cell_blk Hx.out 2
  have H := Lib.hid (law_FewW A0 n0 c0 ss0 w3 (((Hz0.out.below Hbw.out).more Hbw.out.size |>.below hq3).more hq3.size) hn0)
  go_wp2_with fail
  refine H.out.mono ?_
  clear H e0 e1 e2
  rintro e w4 ⟨⟨A, n, c, rfl, hnc, hz, hno⟩, hb⟩
  have hq4 := hq3.trans (hb.mono hq3.size)
  clear hb hq3
  have hx4 := (hq4.block _ hlt).trans Hx.out
  have e0 := cell_blk hx4 0
  have e1 := cell_blk hx4 1
  have e2 := cell_blk hx4 2
  clear hx4
  obtain ⟨hf1, hf2⟩ := fewW_len ss0
  generalize fewW ss0 = ss at *
  have hn : n ≤ 20 := by have := hz.len; omega
  have hcs : ∀ x ∈ ss, x.length ≤ 1000000 := fun x hx => by have := hf2 x hx; omega
  have hssl := hz.len
  have Hz := Lib.hid hz
  have Hcs := Lib.hid hcs
  clear hz hcs hf1 hf2 hno Hz0
  have HT := Lib.hid ((HT.out.below hq4).more hq4.size)
  have Hbw := Lib.hid (Hbw.out.trans (hq4.mono Hbw.out.size))
  have hx4 := (hq4.block _ hlt).trans Hx.out
  have hlt := (Array.getElem?_eq_some_iff.1 hx4).1
  have Hx := Lib.hid hx4
  clear hx4 hq4
  have hq4 : Below w4.heap.size w4 w4 := Below.refl _ _
  rcases fits_cases T wd ss r with ⟨hk, he⟩ | ⟨hk, he⟩
  rotate_left
  · have g1 : (chkW T ss != 0) = true := by simpa using hk
    have hH := width_Fit Ai n2 ci A2 m2 c2 wd T A n c r ss p q u p2 q2 w4 ((HT.out.below hq4).more hq4.size) hn2 hm2 Hcb.out ((Hz.out.below hq4).more hq4.size) (by omega) Hcs.out ((HG.out.wid.below Hbw.out).below hq4) ((HG.out.sca.below Hbw.out).below hq4)
    rw [he] at hH
    dsimp only at hH
    have H := Lib.hid hH
    clear hH
    go_wp2_with fail
    refine H.out.mono ?_
    clear H e0 e1 e2
    rintro e w5 ⟨rfl, hb⟩
    have hq5 := hq4.trans (hb.mono hq4.size)
    have hx5 := (hq5.block _ hlt).trans Hx.out
    have e0 := cell_blk hx5 0
    have e1 := cell_blk hx5 1
    have e2 := cell_blk hx5 2
    clear hb hq4 hx5
    generalize chkW T ss = k1 at *
    clear hk he e0 e1 e2
    go_wp2_with fail
    go_ret
    exact ⟨rfl, Hbw.out.trans (hq5.mono Hbw.out.size)⟩
  · have hle := fitW_le T wd r ss 0
    have hlaw := fits_law T wd ss r
    have hcola := fits_col (wd := wd) hk (fitW T wd r ss 0)
    have hcolb := fits_col (wd := wd) hk (min (fitW T wd r ss 0 + 1) ss.length)
    rw [hssl] at hle hlaw hcolb
    generalize fitW T wd r ss 0 = K at *
    generalize hca : sumW T wd (ss.take K) = ca at *
    generalize hcb2 : sumW T wd (ss.take (min (K + 1) n)) = cb2 at *
    have Hc6 := Lib.hid (fun (W : World) (hW : Below w4.heap.size w4 W) => by
      have hh := width_Columns Ai n2 ci A2 m2 c2 wd T A K c (ss.take K) p q u p2 q2 W ((HT.out.below hW).more hW.size) hn2 hm2 Hcb.out ((Hz.out.front K hle).below hW |>.more hW.size) (by omega) (fun x hx => Hcs.out x (List.mem_of_mem_take hx)) ((HG.out.wid.below Hbw.out).below hW) ((HG.out.sca.below Hbw.out).below hW)
      rw [hcola] at hh
      exact hh)
    have Hc7 := Lib.hid (fun (W : World) (hW : Below w4.heap.size w4 W) => by
      have hh := width_Columns Ai n2 ci A2 m2 c2 wd T A (min (K + 1) n) c (ss.take (min (K + 1) n)) p q u p2 q2 W ((HT.out.below hW).more hW.size) hn2 hm2 Hcb.out ((Hz.out.front (min (K + 1) n) (by omega)).below hW |>.more hW.size) (by omega) (fun x hx => Hcs.out x (List.mem_of_mem_take hx)) ((HG.out.wid.below Hbw.out).below hW) ((HG.out.sca.below Hbw.out).below hW)
      rw [hcolb] at hh
      exact hh)
    have hKn : ¬ ((K : Int) < 0) := by omega
    have hwr : IntKind.i64.wrap ((K : Int) + 1) = (K : Int) + 1 := by simp [IntKind.wrap, IntKind.bits, IntKind.signed]; omega
    have hKn2 : ¬ ((K : Int) > (n : Int)) := by omega
    have hKc : K ≤ c := by omega
    have hKi : (K : Int) ≤ (c : Int) := by omega
    have hMc : min (K + 1) n ≤ c := by omega
    have hMi : min ((K : Int) + 1) (n : Int) ≤ (c : Int) := by omega
    have hM0 : 0 ≤ min ((K : Int) + 1) (n : Int) := by omega
    have hMt : (min ((K : Int) + 1) (n : Int)).toNat = min (K + 1) n := by omega
    have Hlaw := Lib.hid hlaw
    clear hlaw hcola hcolb hca hcb2 hk
    have hH := width_Fit Ai n2 ci A2 m2 c2 wd T A n c r ss p q u p2 q2 w4 ((HT.out.below hq4).more hq4.size) hn2 hm2 Hcb.out ((Hz.out.below hq4).more hq4.size) (by omega) Hcs.out ((HG.out.wid.below Hbw.out).below hq4) ((HG.out.sca.below Hbw.out).below hq4)
    rw [he] at hH
    dsimp only at hH
    have H := Lib.hid hH
    clear hH
    go_wp2_with fail
    refine H.out.mono ?_
    clear H e0 e1 e2
    rintro e w5 ⟨rfl, hb⟩
    have hq5 := hq4.trans (hb.mono hq4.size)
    have hx5 := (hq5.block _ hlt).trans Hx.out
    have e0 := cell_blk hx5 0
    have e1 := cell_blk hx5 1
    have e2 := cell_blk hx5 2
    clear hb hq4 hx5
    clear he
    go_upto_region 9 with fail
    refine wp_region_noPanic ?_
    refine wp_region_held_drew (S := (fun V => V.cell? ⟨w.heap.size, 0, none⟩ = some (.slice Ai n2 ci) ∧ V.cell? ⟨w.heap.size, 1, none⟩ = some (.slice A2 m2 c2) ∧ V.cell? ⟨w.heap.size, 2, none⟩ = some (.bool wd))) (by kernel_rfl) ⟨e0, e1, e2⟩ (fun hHeld => ?_)
    refine wpAnyH_take (i := 0) (v := .agg #[.slice Ai n2 ci, .slice A2 m2 c2, .bool wd]) rfl (by kernel_rfl) (by kernel_rfl) (by kernel_rfl) (fun _ _ _ h => h) (.inl ⟨by rfl, fun V hV => by obtain ⟨c0, c1, c2⟩ := hV; go_simp⟩) hHeld ?_
    try simp only [Act.put, List.getElem_toArray, List.getElem_cons_zero, List.setIfInBounds_toArray, List.set_cons_zero, List.set_cons_succ]
    refine wpAnyH_take (i := 1) (v := .slice A n c) rfl (by kernel_rfl) (by kernel_rfl) (by kernel_rfl) (fun _ _ _ h => h) (.inl ⟨by rfl, fun V hV => by obtain ⟨c0, c1, c2⟩ := hV; go_simp⟩) hHeld ?_
    try simp only [Act.put, List.getElem_toArray, List.getElem_cons_zero, List.getElem_cons_succ, List.setIfInBounds_toArray, List.set_cons_zero, List.set_cons_succ]
    refine wpAnyH_take (i := 2) (v := .int .i64 (K : Int)) rfl (by kernel_rfl) (by kernel_rfl) (by kernel_rfl) (fun _ _ _ h => h) (.inl ⟨by rfl, fun V hV => by obtain ⟨c0, c1, c2⟩ := hV; go_simp⟩) hHeld ?_
    try simp only [Act.put, List.getElem_toArray, List.getElem_cons_zero, List.getElem_cons_succ, List.setIfInBounds_toArray, List.set_cons_zero, List.set_cons_succ]
    refine wpAnyH_take (i := 3) (v := .slice A K c) rfl (by kernel_rfl) (by kernel_rfl) (by kernel_rfl) (fun _ _ _ h => h) (.inl ⟨by rfl, fun V hV => by obtain ⟨c0, c1, c2⟩ := hV; go_simp⟩) hHeld ?_
    try simp only [Act.put, List.getElem_toArray, List.getElem_cons_zero, List.getElem_cons_succ, List.setIfInBounds_toArray, List.set_cons_zero, List.set_cons_succ]
    refine wpAnyH_ready (rs := [4]) (by kernel_rfl) (by simp) ?_
    refine AllReadyH.cons rfl (fun K hK => ?_) AllReadyH.nil
    go_simp
    refine (Hc6.out _ hq5.drew).mono ?_
    rintro e w6 ⟨rfl, hb6⟩
    have hq6 := hq5.drew.trans (hb6.mono hq5.drew.size)
    have hx6 := (hq6.block _ hlt).trans Hx.out
    refine hK.out _ _ ⟨cell_blk hx6 0, cell_blk hx6 1, cell_blk hx6 2⟩ (fun hHeld => ?_)
    clear hK K
    try simp only [Act.put, List.getElem_toArray, List.getElem_cons_zero, List.getElem_cons_succ, List.setIfInBounds_toArray, List.set_cons_zero, List.set_cons_succ]
    refine wpAnyH_take (i := 5) (v := .tuple #[.int .i64 ca, .int .i64 0]) rfl (by kernel_rfl) (by kernel_rfl) (by kernel_rfl) (fun _ _ _ h => h) (.inl ⟨by rfl, fun V hV => by obtain ⟨c0, c1, c2⟩ := hV; go_simp⟩) hHeld ?_
    try simp only [Act.put, List.getElem_toArray, List.getElem_cons_zero, List.getElem_cons_succ, List.setIfInBounds_toArray, List.set_cons_zero, List.set_cons_succ]
    refine wpAnyH_take (i := 6) (v := .int .i64 ca) rfl (by kernel_rfl) (by kernel_rfl) (by kernel_rfl) (fun _ _ _ h => h) (.inl ⟨by rfl, fun V hV => by obtain ⟨c0, c1, c2⟩ := hV; go_simp⟩) hHeld ?_
    try simp only [Act.put, List.getElem_toArray, List.getElem_cons_zero, List.getElem_cons_succ, List.setIfInBounds_toArray, List.set_cons_zero, List.set_cons_succ]
    refine wpAnyH_take (i := 7) (v := .int .i64 0) rfl (by kernel_rfl) (by kernel_rfl) (by kernel_rfl) (fun _ _ _ h => h) (.inl ⟨by rfl, fun V hV => by obtain ⟨c0, c1, c2⟩ := hV; go_simp⟩) hHeld ?_
    try simp only [Act.put, List.getElem_toArray, List.getElem_cons_zero, List.getElem_cons_succ, List.setIfInBounds_toArray, List.set_cons_zero, List.set_cons_succ]
    refine wpAnyH_take (i := 8) (v := .int .i64 ca) rfl (by kernel_rfl) (by kernel_rfl) (by kernel_rfl) (fun _ _ _ h => h) (.inl ⟨by rfl, fun V hV => by obtain ⟨c0, c1, c2⟩ := hV; go_simp⟩) hHeld ?_
    try simp only [Act.put, List.getElem_toArray, List.getElem_cons_zero, List.getElem_cons_succ, List.setIfInBounds_toArray, List.set_cons_zero, List.set_cons_succ]
    refine wpAnyH_take (i := 9) (v := .int .i64 0) rfl (by kernel_rfl) (by kernel_rfl) (by kernel_rfl) (fun _ _ _ h => h) (.inl ⟨by rfl, fun V hV => by obtain ⟨c0, c1, c2⟩ := hV; go_simp⟩) hHeld ?_
    try simp only [Act.put, List.getElem_toArray, List.getElem_cons_zero, List.getElem_cons_succ, List.setIfInBounds_toArray, List.set_cons_zero, List.set_cons_succ]
    refine wpAnyH_done (by kernel_rfl) ?_ _
    refine NoPanic.normal ?_
    clear e0 e1 e2
    have e0 := cell_blk hx6 0
    have e1 := cell_blk hx6 1
    have e2 := cell_blk hx6 2
    go_upto_region 10 with fail
    refine wp_region_noPanic ?_
    refine wp_region_held_drew (S := (fun V => V.cell? ⟨w.heap.size, 0, none⟩ = some (.slice Ai n2 ci) ∧ V.cell? ⟨w.heap.size, 1, none⟩ = some (.slice A2 m2 c2) ∧ V.cell? ⟨w.heap.size, 2, none⟩ = some (.bool wd))) (by kernel_rfl) ⟨e0, e1, e2⟩ (fun hHeld => ?_)
    refine wpAnyH_take (i := 0) (v := .agg #[.slice Ai n2 ci, .slice A2 m2 c2, .bool wd]) rfl (by kernel_rfl) (by kernel_rfl) (by kernel_rfl) (fun _ _ _ h => h) (.inl ⟨by rfl, fun V hV => by obtain ⟨c0, c1, c2⟩ := hV; go_simp⟩) hHeld ?_
    try simp only [Act.put, List.getElem_toArray, List.getElem_cons_zero, List.setIfInBounds_toArray, List.set_cons_zero, List.set_cons_succ]
    refine wpAnyH_take (i := 1) (v := .slice A n c) rfl (by kernel_rfl) (by kernel_rfl) (by kernel_rfl) (fun _ _ _ h => h) (.inl ⟨by rfl, fun V hV => by obtain ⟨c0, c1, c2⟩ := hV; go_simp⟩) hHeld ?_
    try simp only [Act.put, List.getElem_toArray, List.getElem_cons_zero, List.getElem_cons_succ, List.setIfInBounds_toArray, List.set_cons_zero, List.set_cons_succ]
    refine wpAnyH_take (i := 2) (v := .int .i64 (K : Int)) rfl (by kernel_rfl) (by kernel_rfl) (by kernel_rfl) (fun _ _ _ h => h) (.inl ⟨by rfl, fun V hV => by obtain ⟨c0, c1, c2⟩ := hV; go_simp⟩) hHeld ?_
    try simp only [Act.put, List.getElem_toArray, List.getElem_cons_zero, List.getElem_cons_succ, List.setIfInBounds_toArray, List.set_cons_zero, List.set_cons_succ]
    refine wpAnyH_take (i := 3) (v := .int .i64 ((K : Int) + 1)) rfl (by kernel_rfl) (by kernel_rfl) (by kernel_rfl) (fun _ _ _ h => h) (.inl ⟨by rfl, fun V hV => by obtain ⟨c0, c1, c2⟩ := hV; go_simp⟩) hHeld ?_
    try simp only [Act.put, List.getElem_toArray, List.getElem_cons_zero, List.getElem_cons_succ, List.setIfInBounds_toArray, List.set_cons_zero, List.set_cons_succ]
    refine wpAnyH_take (i := 4) (v := .slice A n c) rfl (by kernel_rfl) (by kernel_rfl) (by kernel_rfl) (fun _ _ _ h => h) (.inl ⟨by rfl, fun V hV => by obtain ⟨c0, c1, c2⟩ := hV; go_simp⟩) hHeld ?_
    try simp only [Act.put, List.getElem_toArray, List.getElem_cons_zero, List.getElem_cons_succ, List.setIfInBounds_toArray, List.set_cons_zero, List.set_cons_succ]
    refine wpAnyH_take (i := 5) (v := .int .i64 (n : Int)) rfl (by kernel_rfl) (by kernel_rfl) (by kernel_rfl) (fun _ _ _ h => h) (.inl ⟨by rfl, fun V hV => by obtain ⟨c0, c1, c2⟩ := hV; go_simp⟩) hHeld ?_
    try simp only [Act.put, List.getElem_toArray, List.getElem_cons_zero, List.getElem_cons_succ, List.setIfInBounds_toArray, List.set_cons_zero, List.set_cons_succ]
    refine wpAnyH_take (i := 6) (v := .int .i64 (min ((K : Int) + 1) n)) rfl (by kernel_rfl) (by kernel_rfl) (by kernel_rfl) (fun _ _ _ h => h) (.inl ⟨by rfl, fun V hV => by obtain ⟨c0, c1, c2⟩ := hV; go_simp⟩) hHeld ?_
    try simp only [Act.put, List.getElem_toArray, List.getElem_cons_zero, List.getElem_cons_succ, List.setIfInBounds_toArray, List.set_cons_zero, List.set_cons_succ]
    refine wpAnyH_take (i := 7) (v := .slice A (min (K + 1) n) c) rfl (by kernel_rfl) (by kernel_rfl) (by kernel_rfl) (fun _ _ _ h => h) (.inl ⟨by rfl, fun V hV => by obtain ⟨c0, c1, c2⟩ := hV; go_simp⟩) hHeld ?_
    try simp only [Act.put, List.getElem_toArray, List.getElem_cons_zero, List.getElem_cons_succ, List.setIfInBounds_toArray, List.set_cons_zero, List.set_cons_succ]
    refine wpAnyH_ready (rs := [8]) (by kernel_rfl) (by simp) ?_
    refine AllReadyH.cons rfl (fun K hK => ?_) AllReadyH.nil
    go_simp
    refine (Hc7.out _ hq6.drew).mono ?_
    rintro e w7 ⟨rfl, hb7⟩
    have hq7 := hq6.drew.trans (hb7.mono hq6.drew.size)
    have hx7 := (hq7.block _ hlt).trans Hx.out
    refine hK.out _ _ ⟨cell_blk hx7 0, cell_blk hx7 1, cell_blk hx7 2⟩ (fun hHeld => ?_)
    clear hK K
    try simp only [Act.put, List.getElem_toArray, List.getElem_cons_zero, List.getElem_cons_succ, List.setIfInBounds_toArray, List.set_cons_zero, List.set_cons_succ]
    refine wpAnyH_take (i := 9) (v := .tuple #[.int .i64 cb2, .int .i64 0]) rfl (by kernel_rfl) (by kernel_rfl) (by kernel_rfl) (fun _ _ _ h => h) (.inl ⟨by rfl, fun V hV => by obtain ⟨c0, c1, c2⟩ := hV; go_simp⟩) hHeld ?_
    try simp only [Act.put, List.getElem_toArray, List.getElem_cons_zero, List.getElem_cons_succ, List.setIfInBounds_toArray, List.set_cons_zero, List.set_cons_succ]
    refine wpAnyH_take (i := 10) (v := .int .i64 cb2) rfl (by kernel_rfl) (by kernel_rfl) (by kernel_rfl) (fun _ _ _ h => h) (.inl ⟨by rfl, fun V hV => by obtain ⟨c0, c1, c2⟩ := hV; go_simp⟩) hHeld ?_
    try simp only [Act.put, List.getElem_toArray, List.getElem_cons_zero, List.getElem_cons_succ, List.setIfInBounds_toArray, List.set_cons_zero, List.set_cons_succ]
    refine wpAnyH_take (i := 11) (v := .int .i64 0) rfl (by kernel_rfl) (by kernel_rfl) (by kernel_rfl) (fun _ _ _ h => h) (.inl ⟨by rfl, fun V hV => by obtain ⟨c0, c1, c2⟩ := hV; go_simp⟩) hHeld ?_
    try simp only [Act.put, List.getElem_toArray, List.getElem_cons_zero, List.getElem_cons_succ, List.setIfInBounds_toArray, List.set_cons_zero, List.set_cons_succ]
    refine wpAnyH_take (i := 12) (v := .int .i64 cb2) rfl (by kernel_rfl) (by kernel_rfl) (by kernel_rfl) (fun _ _ _ h => h) (.inl ⟨by rfl, fun V hV => by obtain ⟨c0, c1, c2⟩ := hV; go_simp⟩) hHeld ?_
    try simp only [Act.put, List.getElem_toArray, List.getElem_cons_zero, List.getElem_cons_succ, List.setIfInBounds_toArray, List.set_cons_zero, List.set_cons_succ]
    refine wpAnyH_take (i := 13) (v := .int .i64 0) rfl (by kernel_rfl) (by kernel_rfl) (by kernel_rfl) (fun _ _ _ h => h) (.inl ⟨by rfl, fun V hV => by obtain ⟨c0, c1, c2⟩ := hV; go_simp⟩) hHeld ?_
    try simp only [Act.put, List.getElem_toArray, List.getElem_cons_zero, List.getElem_cons_succ, List.setIfInBounds_toArray, List.set_cons_zero, List.set_cons_succ]
    refine wpAnyH_done (by kernel_rfl) ?_ _
    refine NoPanic.normal ?_
    clear e0 e1 e2 hHeld
    have hlaw := Hlaw.out
    rcases hlaw with ⟨hneg, rfl⟩ | ⟨hpos, hca, hor⟩
    · have d1 : decide (r < 0) = true := decide_eq_true hneg
      go_wp2_with fail
      go_ret
      exact ⟨rfl, Hbw.out.trans (hq7.mono Hbw.out.size)⟩
    · have d1 : decide (r < 0) = false := decide_eq_false (by omega)
      have d2 : decide (r ≥ 0) = true := decide_eq_true hpos
      have d3 : decide (ca ≤ r) = true := decide_eq_true hca
      rcases hKe : ((K : Int) == (n : Int)) with _ | _
      · have d4 : decide (cb2 > r) = true := decide_eq_true (by
          rcases hor with h | h
          · exact absurd h (by have : ¬ (K : Int) = (n : Int) := by simpa using hKe
                               omega)
          · exact h)
        clear hor hpos hca
        go_wp2_with fail
        go_ret
        exact ⟨rfl, Hbw.out.trans (hq7.mono Hbw.out.size)⟩
      · clear hor hpos hca
        go_wp2_with fail
        go_ret
        exact ⟨rfl, Hbw.out.trans (hq7.mono Hbw.out.size)⟩
end Go.Vir


/- For every widths, texts and number: what fits is at most so wide, and with one more it is not. (The listed variables are tied to the text.) -/
namespace Go.Proofs.YtjbeaheenfcgdaaGreatDoor
open Go Go.Vir Go.RowKit Go.Proofs Go.ChangeShapes Go.WideShapes Go.ChangeAt

set_option maxHeartbeats 800000 in
set_option maxRecDepth 100000 in
theorem fits_lifted (os : Os) (started : os.Started) (H : Type) (enc : TypeId × Value → H) :
    ReturnsInHanded {} Tryz.checked os 11 .any (fun w args => (Rows.widthFitsSpec.pre enc Tryz.prog Tryz.f11 [] false w args ∧ laidMetH Tryz.prog laidW w) ∧ sizedMet enc Tryz.prog Tryz.f11 (OpenSpec.ofChange Rows.widthFitsSpec) false w args)
      (Rows.widthFitsSpec.post enc Tryz.prog Tryz.f11 false true false false) := by
  refine returns_shaped (C := Tryz.checked) (X := fun w _ => laidMetH Tryz.prog laidW w) (fun _ _ _ hh h => h.of_heap hh) own started (by kernel_rfl) Tryz.func11
    (ChangeSpec.witness_shaped (enc := enc) (C := Tryz.checked) (os := os) (X := fun w _ => laidMetH Tryz.prog laidW w) false (worldW os) #[.agg #[.slice none 0 0, .slice none 0 0, .bool false], .slice none 0 0, .int .i64 0] 8 (worldW_os os) (worldW_shaped os) (by kernel_rfl) (by kernel_rfl) (by kernel_rfl) (worldW_met os _)) ?_
  intro W base args ds gs before hval0 hW hsh hL
  have hval : ∀ (j : Nat) t v, Tryz.f11.params[j]? = some t → args[j]? = some v → Value.okWide Tryz.prog W .any base t v := hval0
  have hW' := hW
  obtain ⟨p, q, hA0, hV, rfl, _, _⟩ := hW
  have hA : DataW.TrodAll enc Tryz.prog W 0 (fun _ => true) true Tryz.f11.params.toList args.toList ds p := hA0
  rw [Tryz.params11] at hA hval
  obtain ⟨v0, v1, v2, d0, d1, d2, p0, p1, p2, rfl, rfl, rfl, h0, h1, h2⟩ := trodAll_three hA
  obtain ⟨rfl, rfl⟩ := trodVars_none hV
  have hlt : ∀ x ∈ p0 ++ p1 ++ p2, x.block < W.heap.size := fun x hx => by simpa using hW'.lt x (by simpa using hx)
  have hargs : ∀ (W' : World), Below W.heap.size W W' → DataW.TrodAll enc Tryz.prog W' 0 (fun b => decide (b < W.heap.size)) true #[42, 22, 3].toList #[v0, v1, v2].toList [d0, d1, d2] (p0 ++ (p1 ++ p2)) := fun W' hn =>
    trodAll_mk3 (Below.trod laidOut (by kernel_rfl) (of_decide_eq_true (by kernel_rfl)) h0 hn (fun x hx => hlt x (by simp [hx]))) (Below.trod laidOut (by kernel_rfl) (of_decide_eq_true (by kernel_rfl)) h1 hn (fun x hx => hlt x (by simp [hx]))) (Below.trod laidOut (by kernel_rfl) (of_decide_eq_true (by kernel_rfl)) h2 hn (fun x hx => hlt x (by simp [hx])))
  obtain ⟨p, q, u, p2, q2, hG⟩ := gloW_of_laid hsh hL
  have key : Calls Tryz.prog 11 #[v0, v1, v2] W fun e W' => e = .returned (.bool true) ∧ Below W.heap.size W W' := by
    obtain ⟨Ai, ni, ci, Ab, nb, cb, wd, T, rfl, hic, hni, hnb, hbs, hT⟩ := open_widths (hval 0 42 v0 rfl rfl) h0
    obtain ⟨B, n, c, ss, rfl, hn, hz⟩ := open_texts (hval 1 22 v1 rfl rfl) h1
    obtain ⟨k, rfl, _, _, _⟩ := open_int Tryz.underlying3 (hval 2 3 v2 rfl rfl) h2
    exact law_wfits Ai ni ci Ab nb cb wd T B n c ss k p q u p2 q2 W hG hT hic hni hnb hbs hz hn
  refine key.mono fun e W' ⟨he, hn⟩ => ?_
  subst he
  exact ⟨_, rfl, _, _, _, [], _, [], hW', trodAll_mk1 (shut_bool Tryz.underlying4 true), hargs _ hn, rfl, hn.frame _, fun h => by cases h⟩

set_option maxRecDepth 100000 in
set_option maxHeartbeats 4000000 in
theorem fits_closed : joinedFacts Tryz.prog 11 Tryz.f11 Rows.widthFitsSpec Rows.widthFitsRow = true := by
  unfold joinedFacts
  repeat' (with_reducible apply and_mk)
  all_goals as_aux_lemma => kernel_rfl
set_option maxHeartbeats 4000000 in
theorem fits_holds : Rows.WidthFitsSaid :=
  OpenClaim.holds_of_wide 11 Tryz.f11 rfl rfl rfl rfl rfl rfl rfl ⟨rfl, rfl, rfl, rfl, rfl⟩ rfl rfl rfl rfl rfl (by kernel_rfl) Tryz.func11 fits_closed
    (of_decide_eq_true (by kernel_rfl)) (by unfold Func.isWrapper; first | (rw [if_pos (by decide +kernel)]; kernel_rfl) | (rw [if_neg (by decide +kernel)]; exact ⟨rfl, rfl⟩))
    (fun os started H enc _ => fits_lifted os started H enc)

theorem fits_card : Rows.WidthFitsCardSaid :=
  Claim7.holds_tied_plain_at .later [] [.data, .handle, .sentinel, .sentinel, .sentinel, .sentinel, .sentinel, .sentinel, .sentinel, .sentinel, .pinned] true (true, "fff8911dbad99978d22468c38c03ea7cf60215aaed4f667c212fe979b0fddc08") true
    fits_holds (fun _ h => by cases h) (by kernel_rfl) (fun _ h => by cases h) widthFits_row_tie rfl ⟨rfl, rfl⟩ (by kernel_rfl) rfl
    (fun f fn hf hfn => by
      obtain rfl : f = 11 := Option.some.inj ((show Tryz.prog.funcNamed "virama/viramalaw15.WidthFits" = some 11 by kernel_rfl).symm.trans hf) |>.symm
      obtain rfl : fn = Tryz.f11 := (Option.some.inj (Tryz.func11.symm.trans hfn)).symm
      exact ⟨by kernel_rfl, fun j t ht => by
        rw [Tryz.params11] at ht
        have hm : t ∈ [42, 22, 3] := by simpa using Array.mem_of_getElem? ht
        have hall : ([42, 22, 3].all fun u => !Tryz.prog.wantsStandIn u) = true := by kernel_rfl
        exact (show Tryz.prog.wantsStandIn t = false by simpa using List.all_eq_true.1 hall t hm)⟩)
    (by kernel_rfl)
#print axioms fits_card
end Go.Proofs.YtjbeaheenfcgdaaGreatDoor

