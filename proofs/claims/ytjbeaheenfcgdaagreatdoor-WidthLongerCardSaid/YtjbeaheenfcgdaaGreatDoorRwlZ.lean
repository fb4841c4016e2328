/- For every widths and two texts: two clusters as one are no less wide than each, and 2 wide only if one of them is or fe0f stands behind the first scalar. (The listed variables are tied to the text.) -/
import Derived.Test.YtjbeaheenfcgdaaGreatDoorBm
import Derived.Test.YtjbeaheenfcgdaaGreatDoorBn
import Derived.Test.YtjbeaheenfcgdaaGreatDoorTie
import Derived.Test.YtjbeaheenfcgdaaGreatDoorCards
/- viramalaw15: WidthLonger. -/
namespace Go.Vir
open Go Go.RowKit Go.Proofs Go.Shelf
attribute [local go_sem] Oper.semAt_some

set_option maxRecDepth 100000 in
set_option maxHeartbeats 8000000 in
theorem law_wlonger (Ai : Option Addr) (ni ci : Nat) (Ab : Option Addr) (nb cb : Nat) (wd : Bool) (T0 : TrV) (s0 t0 : List UInt8) (p q u p2 q2 : Addr) (w : World) (hG : GloW w p q u p2 q2) (hT : Tri w w.heap.size Ai ni Ab nb T0) (hic : ni ≤ ci) (hni : ni ≤ 9223372036854775807) (hnb : nb ≤ 9223372036854775807)
    (hbs : ∀ b ∈ T0.bl, b.length ≤ 9223372036854775807) (hs : s0.length ≤ 9223372036854775807) (ht : t0.length ≤ 9223372036854775807) :
    Calls Tryz.prog 7 #[.agg #[.slice Ai ni ci, .slice Ab nb cb, .bool wd], .string ⟨s0.toArray⟩, .string ⟨t0.toArray⟩] w fun e w' => e = .returned (.bool true) ∧ Below w.heap.size w w' := by
  obtain ⟨W0, hW0⟩ : ∃ W0, W0 = w.alloc (.cells #[.slice Ai ni ci, .slice Ab nb cb, .bool wd] 42) := ⟨_, rfl⟩
  have hbw0 : Below w.heap.size w W0 := by rw [hW0]; go_grown
  have hx0 : W0.heap[w.heap.size]? = some (.cells #[.slice Ai ni ci, .slice Ab nb cb, .bool wd] 42 (0, 0)) := by rw [hW0]; exact heap_new rfl
  have hlt := (Array.getElem?_eq_some_iff.1 hx0).1
  have H0 := Lib.hid (law15_shown p q u p2 q2 W0 (hG.below hbw0))
  have HG := Lib.hid hG
  have HT := Lib.hid hT
  have Hbs := Lib.hid hbs
  have Hbw0 := Lib.hid hbw0
  have Hx0 := Lib.hid hx0
  clear hG hT hbs hbw0 hx0
  go_enter Tryz.func7, Tryz.ntmps7
  go_upto_region 1 with fail
  rw [← hW0]
  clear hW0
  go_wp2_with fail
  refine H0.out.mono ?_
  rintro e w1 ⟨rfl, hb1⟩
  have hbw1 := Hbw0.out.trans (hb1.mono Hbw0.out.size)
  have hs1 := hbw1.size
  have hx1 := (hb1.block _ hlt).trans Hx0.out
  have hlt1 := (Array.getElem?_eq_some_iff.1 hx1).1
  have e0 := cell_blk hx1 0
  have e1 := cell_blk hx1 1
  have e2 := cell_blk hx1 2
  have Htab := Lib.hid (law15_Table w.heap.size Ai ni ci Ab nb cb wd T0 w1 (HT.out.below hbw1) hbw1.size hic hnb hni Hbs.out)
  have Hbw1 := Lib.hid hbw1
  have Hx1 := Lib.hid hx1
  clear hbw1 hx1 hb1 H0 Hbw0 Hx0 HT Hbs
  go_wp2_with fail
  refine Htab.out.mono ?_
  rintro e w2 ⟨⟨n2, A2, m2, c2, rfl, hi2, hm2, hn2, hq2, hT2⟩, hb2⟩
  have hbw2 := Hbw1.out.trans (hb2.mono Hbw1.out.size)
  have hx2 := (hb2.block _ hlt1).trans Hx1.out
  have hcb := (cutT_len T0).2.2
  generalize cutT T0 = T at *
  have hcb : ∀ b ∈ T.bl, b.length ≤ 1000000 := fun b hb => by have := hcb b hb; omega
  have Hcb := Lib.hid hcb
  obtain ⟨g1, g2, g3, g4⟩ := widths_stored (.slice Ai n2 ci) (.slice A2 m2 c2) (.bool wd) hx2 hbw2 (Nat.le_refl _)
  have hT3 := (hT2.keep (by rw [g4]; exact Nat.le_refl _) (fun k hk => g3 k (by omega)) (fun k hk _ => g3 k (by omega))).tri (by rw [g4]; exact hbw2.size)
  obtain ⟨w3, hW3⟩ : ∃ w3, w3 = (((w2.setCell ⟨w.heap.size, 0, none⟩ (.slice Ai n2 ci)).setCell ⟨w.heap.size, 1, none⟩ (.slice A2 m2 c2)).setCell ⟨w.heap.size, 2, none⟩ (.bool wd)) := ⟨_, rfl⟩
  rw [← hW3] at g1 g2 hT3
  have hlt := (Array.getElem?_eq_some_iff.1 g1).1
  have hn2 : n2 ≤ 1000000 := by omega
  have hm2 : m2 ≤ 1000000 := by omega
  obtain ⟨e0, e1, e2⟩ := cells3 hx2
  have s0 := frozen_blk hx2 0
  have s1 := frozen_blk hx2 1
  have s2 := frozen_blk hx2 2
  have Hx := Lib.hid g1
  have HT := Lib.hid hT3
  have Hbw := Lib.hid g2
  have hq3 : Below w3.heap.size w3 w3 := Below.refl _ _
  clear g1 g2 g3 g4 hT3 hT2 hcb hx2 hbw2 hb2 hs1 hlt1 Htab Hbw1 Hx1 hi2 hq2
  go_upto_region 3 with fail
  rw [← hW3]
  clear hW3 e0 e1 e2 s0 s1 s2
  have e0 := cell_blk Hx.out 0
  have e1 := cell_blk Hx.out 1
  have e2 := cell_blk Hx.out 2
  have hm : (min (s0.length : Int) 60).toNat = min s0.length 60 := by omega
  go_upto_region 4 with fail
  rw [text_cut, take_min]
  have hsl : (s0.take 60).length ≤ 60 := by rw [List.length_take]; omega
  generalize s0.take 60 = s at *
  clear hm
  have hm : (min (t0.length : Int) 60).toNat = min t0.length 60 := by omega
  go_upto_region 5 with fail
  rw [text_cut, take_min]
  have htl : (t0.take 60).length ≤ 60 := by rw [List.length_take]; omega
  generalize t0.take 60 = t at *
  clear hm
  have hno : ¬ 9223372036854775807 < (s.length : Int) + (t.length : Int) := by omega
  have hno2 : ¬ 9223372036854775807 < s.length + t.length := by omega
  have hstl : (s ++ t).length ≤ 1000000 := by rw [List.length_append]; omega
  rcases clu_cases T wd s with ⟨hk1, h1⟩ | ⟨hk1, h1⟩
  rotate_left
  · have g1 : (chkW T [s] != 0) = true := by simpa using hk1
    rcases hh2 : cluW T wd t with ⟨y1, y2⟩
    have hH := width_Cluster Ai n2 ci A2 m2 c2 wd T s p q u p2 q2 w3 ((HT.out.below hq3).more hq3.size) hn2 hm2 Hcb.out (by omega) ((HG.out.wid.below Hbw.out).below hq3) ((HG.out.sca.below Hbw.out).below hq3)
    rw [h1] at hH
    dsimp only at hH
    have H := Lib.hid hH
    clear hH
    go_wp2_with fail
    refine H.out.mono ?_
    clear H e0 e1 e2
    rintro e w4 ⟨rfl, hb⟩
    have hq4 := hq3.trans (hb.mono hq3.size)
    have hx4 := (hq4.block _ hlt).trans Hx.out
    have e0 := cell_blk hx4 0
    have e1 := cell_blk hx4 1
    have e2 := cell_blk hx4 2
    clear hb hq3 hx4
    have hH := width_Cluster Ai n2 ci A2 m2 c2 wd T t p q u p2 q2 w4 ((HT.out.below hq4).more hq4.size) hn2 hm2 Hcb.out (by omega) ((HG.out.wid.below Hbw.out).below hq4) ((HG.out.sca.below Hbw.out).below hq4)
    rw [hh2] at hH
    dsimp only at hH
    have H := Lib.hid hH
    clear hH
    go_wp2_with fail
    refine H.out.mono ?_
    clear H e0 e1 e2
    rintro e w5 ⟨rfl, hb⟩
    have hq5 := hq4.trans (hb.mono hq4.size)
    have hx5 := (hq5.block _ hlt).trans Hx.out
    have e0 := cell_blk hx5 0
    have e1 := cell_blk hx5 1
    have e2 := cell_blk hx5 2
    clear hb hq4 hx5
    generalize chkW T [s] = k1 at *
    rcases clu_cases T wd (s ++ t) with ⟨hk3, h3⟩ | ⟨hk3, h3⟩
    · have hH := width_Cluster Ai n2 ci A2 m2 c2 wd T (s ++ t) p q u p2 q2 w5 ((HT.out.below hq5).more hq5.size) hn2 hm2 Hcb.out hstl ((HG.out.wid.below Hbw.out).below hq5) ((HG.out.sca.below Hbw.out).below hq5)
      rw [h3] at hH
      dsimp only at hH
      have H := Lib.hid hH
      clear hH
      go_upto_region 7 with fail
      go_wp2_with fail
      refine H.out.mono ?_
      clear H e0 e1 e2
      rintro e w6 ⟨rfl, hb⟩
      have hq6 := hq5.trans (hb.mono hq5.size)
      have hx6 := (hq6.block _ hlt).trans Hx.out
      have e0 := cell_blk hx6 0
      have e1 := cell_blk hx6 1
      have e2 := cell_blk hx6 2
      clear hb hq5 hx6
      clear hk3 h3
      go_wp2_with fail
      go_ret
      exact ⟨rfl, Hbw.out.trans (hq6.mono Hbw.out.size)⟩
    · have g3 : (chkW T [s ++ t] == 0) = false := by simpa using hk3
      have hH := width_Cluster Ai n2 ci A2 m2 c2 wd T (s ++ t) p q u p2 q2 w5 ((HT.out.below hq5).more hq5.size) hn2 hm2 Hcb.out hstl ((HG.out.wid.below Hbw.out).below hq5) ((HG.out.sca.below Hbw.out).below hq5)
      rw [h3] at hH
      dsimp only at hH
      have H := Lib.hid hH
      clear hH
      go_upto_region 7 with fail
      go_wp2_with fail
      refine H.out.mono ?_
      clear H e0 e1 e2
      rintro e w6 ⟨rfl, hb⟩
      have hq6 := hq5.trans (hb.mono hq5.size)
      have hx6 := (hq6.block _ hlt).trans Hx.out
      have e0 := cell_blk hx6 0
      have e1 := cell_blk hx6 1
      have e2 := cell_blk hx6 2
      clear hb hq5 hx6
      generalize chkW T [s ++ t] = k3 at *
      clear hk3 h3
      go_wp2_with fail
      go_ret
      exact ⟨rfl, Hbw.out.trans (hq6.mono Hbw.out.size)⟩
  · rcases clu_cases T wd t with ⟨hk2, h2⟩ | ⟨hk2, h2⟩
    rotate_left
    · have g2 : (chkW T [t] != 0) = true := by simpa using hk2
      have hH := width_Cluster Ai n2 ci A2 m2 c2 wd T s p q u p2 q2 w3 ((HT.out.below hq3).more hq3.size) hn2 hm2 Hcb.out (by omega) ((HG.out.wid.below Hbw.out).below hq3) ((HG.out.sca.below Hbw.out).below hq3)
      rw [h1] at hH
      dsimp only at hH
      have H := Lib.hid hH
      clear hH
      go_wp2_with fail
      refine H.out.mono ?_
      clear H e0 e1 e2
      rintro e w4 ⟨rfl, hb⟩
      have hq4 := hq3.trans (hb.mono hq3.size)
      have hx4 := (hq4.block _ hlt).trans Hx.out
      have e0 := cell_blk hx4 0
      have e1 := cell_blk hx4 1
      have e2 := cell_blk hx4 2
      clear hb hq3 hx4
      have hH := width_Cluster Ai n2 ci A2 m2 c2 wd T t p q u p2 q2 w4 ((HT.out.below hq4).more hq4.size) hn2 hm2 Hcb.out (by omega) ((HG.out.wid.below Hbw.out).below hq4) ((HG.out.sca.below Hbw.out).below hq4)
      rw [h2] at hH
      dsimp only at hH
      have H := Lib.hid hH
      clear hH
      go_wp2_with fail
      refine H.out.mono ?_
      clear H e0 e1 e2
      rintro e w5 ⟨rfl, hb⟩
      have hq5 := hq4.trans (hb.mono hq4.size)
      have hx5 := (hq5.block _ hlt).trans Hx.out
      have e0 := cell_blk hx5 0
      have e1 := cell_blk hx5 1
      have e2 := cell_blk hx5 2
      clear hb hq4 hx5
      generalize chkW T [t] = k2 at *
      rcases clu_cases T wd (s ++ t) with ⟨hk3, h3⟩ | ⟨hk3, h3⟩
      · have hH := width_Cluster Ai n2 ci A2 m2 c2 wd T (s ++ t) p q u p2 q2 w5 ((HT.out.below hq5).more hq5.size) hn2 hm2 Hcb.out hstl ((HG.out.wid.below Hbw.out).below hq5) ((HG.out.sca.below Hbw.out).below hq5)
        rw [h3] at hH
        dsimp only at hH
        have H := Lib.hid hH
        clear hH
        go_upto_region 7 with fail
        go_wp2_with fail
        refine H.out.mono ?_
        clear H e0 e1 e2
        rintro e w6 ⟨rfl, hb⟩
        have hq6 := hq5.trans (hb.mono hq5.size)
        have hx6 := (hq6.block _ hlt).trans Hx.out
        have e0 := cell_blk hx6 0
        have e1 := cell_blk hx6 1
        have e2 := cell_blk hx6 2
        clear hb hq5 hx6
        clear hk3 h3
        go_wp2_with fail
        go_ret
        exact ⟨rfl, Hbw.out.trans (hq6.mono Hbw.out.size)⟩
      · have g3 : (chkW T [s ++ t] == 0) = false := by simpa using hk3
        have hH := width_Cluster Ai n2 ci A2 m2 c2 wd T (s ++ t) p q u p2 q2 w5 ((HT.out.below hq5).more hq5.size) hn2 hm2 Hcb.out hstl ((HG.out.wid.below Hbw.out).below hq5) ((HG.out.sca.below Hbw.out).below hq5)
        rw [h3] at hH
        dsimp only at hH
        have H := Lib.hid hH
        clear hH
        go_upto_region 7 with fail
        go_wp2_with fail
        refine H.out.mono ?_
        clear H e0 e1 e2
        rintro e w6 ⟨rfl, hb⟩
        have hq6 := hq5.trans (hb.mono hq5.size)
        have hx6 := (hq6.block _ hlt).trans Hx.out
        have e0 := cell_blk hx6 0
        have e1 := cell_blk hx6 1
        have e2 := cell_blk hx6 2
        clear hb hq5 hx6
        generalize chkW T [s ++ t] = k3 at *
        clear hk3 h3
        go_wp2_with fail
        go_ret
        exact ⟨rfl, Hbw.out.trans (hq6.mono Hbw.out.size)⟩
    · obtain ⟨l, m, hsl, htm, hlm, hk3, z1, z2, z3⟩ := longer_clu (wd := wd) hk1 hk2
      obtain ⟨v1, v2, v3⟩ := longer T wd l m
      rcases clu_cases T wd (s ++ t) with ⟨_, h3⟩ | ⟨hk4, _⟩
      rotate_left
      · exact absurd hk3 hk4
      rw [z1] at h1
      rw [z2] at h2
      rw [z3] at h3
      generalize clusW T wd l = a at *
      generalize clusW T wd m = b at *
      generalize clusW T wd (l ++ m) = ab at *
      clear hk1 hk2 hk3 z1 z2 z3 hsl htm
      have hH := width_Cluster Ai n2 ci A2 m2 c2 wd T s p q u p2 q2 w3 ((HT.out.below hq3).more hq3.size) hn2 hm2 Hcb.out (by omega) ((HG.out.wid.below Hbw.out).below hq3) ((HG.out.sca.below Hbw.out).below hq3)
      rw [h1] at hH
      dsimp only at hH
      have H := Lib.hid hH
      clear hH
      go_wp2_with fail
      refine H.out.mono ?_
      clear H e0 e1 e2
      rintro e w4 ⟨rfl, hb⟩
      have hq4 := hq3.trans (hb.mono hq3.size)
      have hx4 := (hq4.block _ hlt).trans Hx.out
      have e0 := cell_blk hx4 0
      have e1 := cell_blk hx4 1
      have e2 := cell_blk hx4 2
      clear hb hq3 hx4
      have hH := width_Cluster Ai n2 ci A2 m2 c2 wd T t p q u p2 q2 w4 ((HT.out.below hq4).more hq4.size) hn2 hm2 Hcb.out (by omega) ((HG.out.wid.below Hbw.out).below hq4) ((HG.out.sca.below Hbw.out).below hq4)
      rw [h2] at hH
      dsimp only at hH
      have H := Lib.hid hH
      clear hH
      go_wp2_with fail
      refine H.out.mono ?_
      clear H e0 e1 e2
      rintro e w5 ⟨rfl, hb⟩
      have hq5 := hq4.trans (hb.mono hq4.size)
      have hx5 := (hq5.block _ hlt).trans Hx.out
      have e0 := cell_blk hx5 0
      have e1 := cell_blk hx5 1
      have e2 := cell_blk hx5 2
      clear hb hq4 hx5
      have hH := width_Cluster Ai n2 ci A2 m2 c2 wd T (s ++ t) p q u p2 q2 w5 ((HT.out.below hq5).more hq5.size) hn2 hm2 Hcb.out hstl ((HG.out.wid.below Hbw.out).below hq5) ((HG.out.sca.below Hbw.out).below hq5)
      rw [h3] at hH
      dsimp only at hH
      have H := Lib.hid hH
      clear hH
      go_upto_region 7 with fail
      go_wp2_with fail
      refine H.out.mono ?_
      clear H e0 e1 e2
      rintro e w6 ⟨rfl, hb⟩
      have hq6 := hq5.trans (hb.mono hq5.size)
      have hx6 := (hq6.block _ hlt).trans Hx.out
      have e0 := cell_blk hx6 0
      have e1 := cell_blk hx6 1
      have e2 := cell_blk hx6 2
      clear hb hq5 hx6
      have hH := scalar_Scalars (s ++ t) p2 q2 w6 hstl ((HG.out.sca.below Hbw.out).below hq6)
      unfold ScP at hH
      rw [hlm] at hH
      dsimp only at hH
      have H := Lib.hid hH
      clear hH
      have hLn := (scalars_right (s ++ t) _ hlm).2
      generalize hL : l ++ m = L at *
      have Hv := Lib.hid (And.intro v1 (And.intro v2 v3))
      clear hlm v1 v2 v3 h1 h2 h3
      go_wp2_with fail
      refine H.out.mono ?_
      clear H e0 e1 e2
      rintro e w7 ⟨⟨A, n, c, rfl, hl7⟩, hb⟩
      have hq7 := hq6.trans (hb.mono hq6.size)
      have Hbw7 := Lib.hid (Hbw.out.trans (hq7.mono Hbw.out.size))
      have Hl7 := Lib.hid hl7
      have hln := hl7.len
      have hn7 : n ≤ 1000000 := by omega
      clear hb hq6 hq7 hl7
      go_wp2_with fail
      go_loopw [16, 17] (fun b i wr => ∃ j : Nat, j ≤ n ∧ i = .int .i64 ((j + 1 : Nat) : Int) ∧ b = .bool ((L.tail.take j).any fun r => decide (r = 65039)) ∧ Below w7.heap.size w7 wr) (fun _ i _ => n + 1 - (RowKit.intOf i).toNat)
      case atStart => exact ⟨0, Nat.zero_le _, rfl, rfl, Below.refl _ _⟩
      case round =>
        obtain ⟨j, hj, rfl, rfl, hbr⟩ := hrel
        rcases Nat.lt_or_ge (j + 1) n with hlt2 | hge
        · obtain ⟨lb, lo, rfl, hlb, hlc⟩ := Hl7.out.at_ (by omega)
          have hjl : j + 1 < L.length := by omega
          have hlc0 := hlc (j + 1) hjl
          have f3 := (cellOf hbr hlb).trans hlc0
          have hjt : j < L.tail.length := by rw [List.length_tail]; omega
          have hsnoc : (L.tail.take (j + 1)).any (fun r => decide (r = 65039)) = ((L.tail.take j).any (fun r => decide (r = 65039)) || decide (L[j + 1] = 65039)) := by
            rw [List.take_succ_eq_append_getElem hjt, List.any_append, List.getElem_tail]; simp
          generalize L[j + 1] = r at *
          generalize (L.tail.take j).any (fun r => decide (r = 65039)) = bl at *
          have Hsn := Lib.hid hsnoc
          clear hsnoc hlc hlc0
          rcases bl with _ | _
          · have hd : (r == 65039) = decide (r = 65039) := by rw [Bool.eq_iff_iff]; simp
            go_wp2_with fail
            go_roundw
            case rel => exact ⟨j + 1, by omega, by go_num, by rw [Hsn.out, Bool.false_or] <;> first | exact congrArg Value.bool hd | rfl, hbr⟩
            case measure => simp [RowKit.intOf]; omega
          · go_wp2_with fail
            go_roundw
            case rel => exact ⟨j + 1, by omega, by go_num, by rw [Hsn.out] <;> rfl, hbr⟩
            case measure => simp [RowKit.intOf]; omega
        · have hfull : (L.tail.take j).any (fun r => decide (r = 65039)) = emoW L := by rw [List.take_of_length_le (by rw [List.length_tail]; omega)]; rfl
          rw [hfull]
          obtain ⟨v1, v2, v3⟩ := Hv.out
          have r1 : decide (ab ≥ a) = true := decide_eq_true v1
          have r2 : decide (ab ≥ b) = true := decide_eq_true v2
          generalize emoW L = em at *
          clear hfull hL
          rcases hb2 : decide (ab < 2) with _ | _
          · rcases ha : (a == 2) with _ | _
            · rcases hbb : (b == 2) with _ | _
              · have hem : em = true := by
                  have h1 : ¬ ab < 2 := by simpa using hb2
                  have h2 : ¬ a = 2 := by simpa using ha
                  have h3 : ¬ b = 2 := by simpa using hbb
                  rcases v3 with v | v | v | v
                  · exact absurd v h1
                  · exact absurd v h2
                  · exact absurd v h3
                  · exact v
                subst hem
                go_wp2_with fail
                go_ret
                exact ⟨rfl, Hbw7.out.trans (hbr.mono Hbw7.out.size)⟩
              · go_wp2_with fail
                go_ret
                exact ⟨rfl, Hbw7.out.trans (hbr.mono Hbw7.out.size)⟩
            · go_wp2_with fail
              go_ret
              exact ⟨rfl, Hbw7.out.trans (hbr.mono Hbw7.out.size)⟩
          · go_wp2_with fail
            go_ret
            exact ⟨rfl, Hbw7.out.trans (hbr.mono Hbw7.out.size)⟩
end Go.Vir


/- For every widths and two texts: two clusters as one are no less wide than each, and 2 wide only if one of them is or fe0f stands behind the first scalar. (The listed variables are tied to the text.) -/
namespace Go.Proofs.YtjbeaheenfcgdaaGreatDoor
open Go Go.Vir Go.RowKit Go.Proofs Go.ChangeShapes Go.WideShapes Go.ChangeAt

set_option maxHeartbeats 800000 in
set_option maxRecDepth 100000 in
theorem longer_lifted (os : Os) (started : os.Started) (H : Type) (enc : TypeId × Value → H) :
    ReturnsInHanded {} Tryz.checked os 7 .any (fun w args => (Rows.widthLongerSpec.pre enc Tryz.prog Tryz.f7 [] false w args ∧ laidMetH Tryz.prog laidW w) ∧ sizedMet enc Tryz.prog Tryz.f7 (OpenSpec.ofChange Rows.widthLongerSpec) false w args)
      (Rows.widthLongerSpec.post enc Tryz.prog Tryz.f7 false true false false) := by
  refine returns_shaped (C := Tryz.checked) (X := fun w _ => laidMetH Tryz.prog laidW w) (fun _ _ _ hh h => h.of_heap hh) own started (by kernel_rfl) Tryz.func7
    (ChangeSpec.witness_shaped (enc := enc) (C := Tryz.checked) (os := os) (X := fun w _ => laidMetH Tryz.prog laidW w) false (worldW os) #[.agg #[.slice none 0 0, .slice none 0 0, .bool false], .string ⟨#[]⟩, .string ⟨#[]⟩] 8 (worldW_os os) (worldW_shaped os) (by kernel_rfl) (by kernel_rfl) (by kernel_rfl) (worldW_met os _)) ?_
  intro W base args ds gs before hval0 hW hsh hL
  have hval : ∀ (j : Nat) t v, Tryz.f7.params[j]? = some t → args[j]? = some v → Value.okWide Tryz.prog W .any base t v := hval0
  have hW' := hW
  obtain ⟨p, q, hA0, hV, rfl, _, _⟩ := hW
  have hA : DataW.TrodAll enc Tryz.prog W 0 (fun _ => true) true Tryz.f7.params.toList args.toList ds p := hA0
  rw [Tryz.params7] at hA hval
  obtain ⟨v0, v1, v2, d0, d1, d2, p0, p1, p2, rfl, rfl, rfl, h0, h1, h2⟩ := trodAll_three hA
  obtain ⟨rfl, rfl⟩ := trodVars_none hV
  have hlt : ∀ x ∈ p0 ++ p1 ++ p2, x.block < W.heap.size := fun x hx => by simpa using hW'.lt x (by simpa using hx)
  have hargs : ∀ (W' : World), Below W.heap.size W W' → DataW.TrodAll enc Tryz.prog W' 0 (fun b => decide (b < W.heap.size)) true #[42, 9, 9].toList #[v0, v1, v2].toList [d0, d1, d2] (p0 ++ (p1 ++ p2)) := fun W' hn =>
    trodAll_mk3 (Below.trod laidOut (by kernel_rfl) (of_decide_eq_true (by kernel_rfl)) h0 hn (fun x hx => hlt x (by simp [hx]))) (Below.trod laidOut (by kernel_rfl) (of_decide_eq_true (by kernel_rfl)) h1 hn (fun x hx => hlt x (by simp [hx]))) (Below.trod laidOut (by kernel_rfl) (of_decide_eq_true (by kernel_rfl)) h2 hn (fun x hx => hlt x (by simp [hx])))
  obtain ⟨p, q, u, p2, q2, hG⟩ := gloW_of_laid hsh hL
  have key : Calls Tryz.prog 7 #[v0, v1, v2] W fun e W' => e = .returned (.bool true) ∧ Below W.heap.size W W' := by
    obtain ⟨Ai, ni, ci, Ab, nb, cb, wd, T, rfl, hic, hni, hnb, hbs, hT⟩ := open_widths (hval 0 42 v0 rfl rfl) h0
    obtain ⟨s, rfl, hs⟩ := open_text (hval 1 9 v1 rfl rfl) h1
    obtain ⟨s2, rfl, hs2⟩ := open_text (hval 2 9 v2 rfl rfl) h2
    exact law_wlonger Ai ni ci Ab nb cb wd T s s2 p q u p2 q2 W hG hT hic hni hnb hbs hs hs2
  refine key.mono fun e W' ⟨he, hn⟩ => ?_
  subst he
  exact ⟨_, rfl, _, _, _, [], _, [], hW', trodAll_mk1 (shut_bool Tryz.underlying4 true), hargs _ hn, rfl, hn.frame _, fun h => by cases h⟩

set_option maxRecDepth 100000 in
set_option maxHeartbeats 4000000 in
theorem longer_closed : joinedFacts Tryz.prog 7 Tryz.f7 Rows.widthLongerSpec Rows.widthLongerRow = true := by
  unfold joinedFacts
  repeat' (with_reducible apply and_mk)
  all_goals as_aux_lemma => kernel_rfl
set_option maxHeartbeats 4000000 in
theorem longer_holds : Rows.WidthLongerSaid :=
  OpenClaim.holds_of_wide 7 Tryz.f7 rfl rfl rfl rfl rfl rfl rfl ⟨rfl, rfl, rfl, rfl, rfl⟩ rfl rfl rfl rfl rfl (by kernel_rfl) Tryz.func7 longer_closed
    (of_decide_eq_true (by kernel_rfl)) (by unfold Func.isWrapper; first | (rw [if_pos (by decide +kernel)]; kernel_rfl) | (rw [if_neg (by decide +kernel)]; exact ⟨rfl, rfl⟩))
    (fun os started H enc _ => longer_lifted os started H enc)

theorem longer_card : Rows.WidthLongerCardSaid :=
  Claim7.holds_tied_plain_at .later [] [.data, .handle, .sentinel, .sentinel, .sentinel, .sentinel, .sentinel, .sentinel, .sentinel, .sentinel, .pinned] true (true, "fff8911dbad99978d22468c38c03ea7cf60215aaed4f667c212fe979b0fddc08") true
    longer_holds (fun _ h => by cases h) (by kernel_rfl) (fun _ h => by cases h) widthLonger_row_tie rfl ⟨rfl, rfl⟩ (by kernel_rfl) rfl
    (fun f fn hf hfn => by
      obtain rfl : f = 7 := Option.some.inj ((show Tryz.prog.funcNamed "virama/viramalaw15.WidthLonger" = some 7 by kernel_rfl).symm.trans hf) |>.symm
      obtain rfl : fn = Tryz.f7 := (Option.some.inj (Tryz.func7.symm.trans hfn)).symm
      exact ⟨by kernel_rfl, fun j t ht => by
        rw [Tryz.params7] at ht
        have hm : t ∈ [42, 9, 9] := by simpa using Array.mem_of_getElem? ht
        have hall : ([42, 9, 9].all fun u => !Tryz.prog.wantsStandIn u) = true := by kernel_rfl
        exact (show Tryz.prog.wantsStandIn t = false by simpa using List.all_eq_true.1 hall t hm)⟩)
    (by kernel_rfl)
#print axioms longer_card
end Go.Proofs.YtjbeaheenfcgdaaGreatDoor

