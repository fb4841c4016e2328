/- For every widths and two lists of texts: columns of two lists are together those of both, one behind the other. (The listed variables are tied to the text.) -/
import Derived.Test.YtjbeaheenfcgdaaGreatDoorBm
import Derived.Test.YtjbeaheenfcgdaaGreatDoorBn
import Derived.Test.YtjbeaheenfcgdaaGreatDoorBk
import Derived.Test.YtjbeaheenfcgdaaGreatDoorTie
import Derived.Test.YtjbeaheenfcgdaaGreatDoorCards
/- viramalaw15: WidthSums. -/
namespace Go.Vir
open Go Go.RowKit Go.Proofs Go.Shelf
attribute [local go_sem] Oper.semAt_some

theorem strVs_len (ss : List (List UInt8)) : (strVs ss).length = ss.length := by simp [strVs]
theorem strVs_one (ss : List (List UInt8)) : ∀ u ∈ strVs ss, u.oneCell' = true := fun u hu => by
  obtain ⟨z, _, rfl⟩ := List.mem_map.1 hu
  rfl
theorem Strs.cells {w : World} {B n : Nat} {A : Option Addr} {ss : List (List UInt8)} (h : Strs w B A n ss) : ∀ ad, A = some ad → ∀ (j : Nat) (u : Value), (strVs ss)[j]? = some u → w.cell? (ad.add j) = some u := by
  intro ad hA j u hj
  have hjl : j < ss.length := by rw [← strVs_len]; exact (List.getElem?_eq_some_iff.1 hj).1
  obtain ⟨b, o, e, hb, hc⟩ := h.at_ (by have := h.len; omega)
  rw [hA] at e
  obtain rfl := Option.some.inj e
  have hadd : (Addr.add ⟨b, o, none⟩ j) = ⟨b, o + j, none⟩ := by
    unfold Addr.add
    split <;> simp_all
  rw [hadd, hc j hjl]
  simpa [strVs, hjl] using hj

set_option maxRecDepth 100000 in
set_option maxHeartbeats 8000000 in
theorem law_wsums (Ai : Option Addr) (ni ci : Nat) (Ab : Option Addr) (nb cb : Nat) (wd : Bool) (T0 : TrV) (A0 : Option Addr) (n0 c0 : Nat) (ss0 : List (List UInt8)) (D0 : Option Addr) (d0 de0 : Nat) (ts0 : List (List UInt8)) (p q u p2 q2 : Addr) (w : World) (hG : GloW w p q u p2 q2) (hT : Tri w w.heap.size Ai ni Ab nb T0) (hic : ni ≤ ci) (hni : ni ≤ 9223372036854775807) (hnb : nb ≤ 9223372036854775807)
    (hbs : ∀ b ∈ T0.bl, b.length ≤ 9223372036854775807) (hz0 : Strs w w.heap.size A0 n0 ss0) (hn0 : n0 ≤ 9223372036854775807) (hy0 : Strs w w.heap.size D0 d0 ts0) (hd0 : d0 ≤ 9223372036854775807) :
    Calls Tryz.prog 10 #[.agg #[.slice Ai ni ci, .slice Ab nb cb, .bool wd], .slice A0 n0 c0, .slice D0 d0 de0] w fun e w' => e = .returned (.bool true) ∧ Below w.heap.size w w' := by
  obtain ⟨W0, hW0⟩ : ∃ W0, W0 = w.alloc (.cells #[.slice Ai ni ci, .slice Ab nb cb, .bool wd] 42) := ⟨_, rfl⟩
  have hbw0 : Below w.heap.size w W0 := by rw [hW0]; go_grown
  have hx0 : W0.heap[w.heap.size]? = some (.cells #[.slice Ai ni ci, .slice Ab nb cb, .bool wd] 42 (0, 0)) := by rw [hW0]; exact heap_new rfl
  have hlt := (Array.getElem?_eq_some_iff.1 hx0).1
  have H0 := Lib.hid (law15_shown p q u p2 q2 W0 (hG.below hbw0))
  have HG := Lib.hid hG
  have HT := Lib.hid hT
  have Hbs := Lib.hid hbs
  have Hbw0 := Lib.hid hbw0
  have Hx0 := Lib.hid hx0
  have Hz0 := Lib.hid hz0
  have Hy0 := Lib.hid hy0
  clear hG hT hbs hbw0 hx0 hz0 hy0
  go_enter Tryz.func10, Tryz.ntmps10
  go_upto_region 1 with fail
  rw [← hW0]
  clear hW0
  go_wp2_with fail
  refine H0.out.mono ?_
  rintro e w1 ⟨rfl, hb1⟩
  have hbw1 := Hbw0.out.trans (hb1.mono Hbw0.out.size)
  have hs1 := hbw1.size
  have hx1 := (hb1.block _ hlt).trans Hx0.out
  have hlt1 := (Array.getElem?_eq_some_iff.1 hx1).1
  have e0 := cell_blk hx1 0
  have e1 := cell_blk hx1 1
  have e2 := cell_blk hx1 2
  have Htab := Lib.hid (law15_Table w.heap.size Ai ni ci Ab nb cb wd T0 w1 (HT.out.below hbw1) hbw1.size hic hnb hni Hbs.out)
  have Hbw1 := Lib.hid hbw1
  have Hx1 := Lib.hid hx1
  clear hbw1 hx1 hb1 H0 Hbw0 Hx0 HT Hbs
  go_wp2_with fail
  refine Htab.out.mono ?_
  rintro e w2 ⟨⟨n2, A2, m2, c2, rfl, hi2, hm2, hn2, hq2, hT2⟩, hb2⟩
  have hbw2 := Hbw1.out.trans (hb2.mono Hbw1.out.size)
  have hx2 := (hb2.block _ hlt1).trans Hx1.out
  have hcb := (cutT_len T0).2.2
  generalize cutT T0 = T at *
  have hcb : ∀ b ∈ T.bl, b.length ≤ 1000000 := fun b hb => by have := hcb b hb; omega
  have Hcb := Lib.hid hcb
  obtain ⟨g1, g2, g3, g4⟩ := widths_stored (.slice Ai n2 ci) (.slice A2 m2 c2) (.bool wd) hx2 hbw2 (Nat.le_refl _)
  have hT3 := (hT2.keep (by rw [g4]; exact Nat.le_refl _) (fun k hk => g3 k (by omega)) (fun k hk _ => g3 k (by omega))).tri (by rw [g4]; exact hbw2.size)
  obtain ⟨w3, hW3⟩ : ∃ w3, w3 = (((w2.setCell ⟨w.heap.size, 0, none⟩ (.slice Ai n2 ci)).setCell ⟨w.heap.size, 1, none⟩ (.slice A2 m2 c2)).setCell ⟨w.heap.size, 2, none⟩ (.bool wd)) := ⟨_, rfl⟩
  rw [← hW3] at g1 g2 hT3
  have hlt := (Array.getElem?_eq_some_iff.1 g1).1
  have hn2 : n2 ≤ 1000000 := by omega
  have hm2 : m2 ≤ 1000000 := by omega
  obtain ⟨e0, e1, e2⟩ := cells3 hx2
  have s0 := frozen_blk hx2 0
  have s1 := frozen_blk hx2 1
  have s2 := frozen_blk hx2 2
  have Hx := Lib.hid g1
  have HT := Lib.hid hT3
  have Hbw := Lib.hid g2
  have hq3 : Below w3.heap.size w3 w3 := Below.refl _ _
  clear g1 g2 g3 g4 hT3 hT2 hcb hx2 hbw2 hb2 hs1 hlt1 Htab Hbw1 Hx1 hi2 hq2
  go_upto_region 3 with fail
  rw [← hW3]
  clear hW3 e0 e1 e2 s0 s1 s2
  have e0 := cell_blk Hx.out 0
  have e1 := cell_blk Hx.out 1
  have e2 := cell_blk Hx.out 2
  have H := Lib.hid (law_FewW A0 n0 c0 ss0 w3 (((Hz0.out.below Hbw.out).more Hbw.out.size |>.below hq3).more hq3.size) hn0)
  go_wp2_with fail
  refine H.out.mono ?_
  clear H e0 e1 e2
  rintro e w4 ⟨⟨A, n, c, rfl, hnc, hz, hno⟩, hb⟩
  have hq4 := hq3.trans (hb.mono hq3.size)
  clear hb hq3
  have hx4 := (hq4.block _ hlt).trans Hx.out
  have e0 := cell_blk hx4 0
  have e1 := cell_blk hx4 1
  have e2 := cell_blk hx4 2
  clear hx4
  obtain ⟨hf1, hf2⟩ := fewW_len ss0
  generalize fewW ss0 = ss at *
  have hn : n ≤ 20 := by have := hz.len; omega
  have hcs : ∀ x ∈ ss, x.length ≤ 40 := hf2
  have Hz := Lib.hid hz
  have Hcs := Lib.hid hcs
  have Hno := Lib.hid hno
  clear hz hcs hf1 hf2 hno Hz0
  have HT := Lib.hid ((HT.out.below hq4).more hq4.size)
  have Hbw := Lib.hid (Hbw.out.trans (hq4.mono Hbw.out.size))
  have hx4 := (hq4.block _ hlt).trans Hx.out
  have hlt := (Array.getElem?_eq_some_iff.1 hx4).1
  have Hx := Lib.hid hx4
  clear hx4 hq4
  have hq4 : Below w4.heap.size w4 w4 := Below.refl _ _
  have H := Lib.hid (law_FewW D0 d0 de0 ts0 w4 (((Hy0.out.below Hbw.out).more Hbw.out.size |>.below hq4).more hq4.size) hd0)
  go_wp2_with fail
  refine H.out.mono ?_
  clear H e0 e1 e2
  rintro e w5 ⟨⟨D, d, de, rfl, hdc, hy, hyo⟩, hb⟩
  have hq5 := hq4.trans (hb.mono hq4.size)
  clear hb hq4
  have hx5 := (hq5.block _ hlt).trans Hx.out
  have e0 := cell_blk hx5 0
  have e1 := cell_blk hx5 1
  have e2 := cell_blk hx5 2
  clear hx5
  obtain ⟨hf1, hf2⟩ := fewW_len ts0
  generalize fewW ts0 = ts at *
  have hd : d ≤ 20 := by have := hy.len; omega
  have hct : ∀ x ∈ ts, x.length ≤ 40 := hf2
  have Hy := Lib.hid hy
  have Hct := Lib.hid hct
  have Hyo := Lib.hid hyo
  have Hz := Lib.hid ((Hz.out.below hq5).more hq5.size)
  clear hy hct hf1 hf2 hyo Hy0
  have HT := Lib.hid ((HT.out.below hq5).more hq5.size)
  have Hbw := Lib.hid (Hbw.out.trans (hq5.mono Hbw.out.size))
  have hx5 := (hq5.block _ hlt).trans Hx.out
  have hlt := (Array.getElem?_eq_some_iff.1 hx5).1
  have Hx := Lib.hid hx5
  clear hx5 hq5
  have hq5 : Below w5.heap.size w5 w5 := Below.refl _ _
  obtain ⟨i0, hi0, hz0, hz1, hz2⟩ := info_parts str_info
  have hon : w5.ownsRow w5.heap.size 9 1 (.slice none 0 0) 0 [] := World.ownsRow_nil _ _ _ _
  have Hxc := Lib.hid Hz.out.cells
  have Hyc := Lib.hid Hy.out.cells
  have Hxl := Lib.hid (show (strVs ss).length = n * 1 by rw [strVs_len, Hz.out.len, Nat.mul_one])
  have Hyl := Lib.hid (show (strVs ts).length = d * 1 by rw [strVs_len, Hy.out.len, Nat.mul_one])
  have tok : True := trivial
  clear e0 e1 e2
  go_wp2_with (first
    | (have _t := tok; at_builtin; refine wpList_append_any rfl _ _ 22 rfl w5.heap.size 9 i0 (.string ⟨#[]⟩) 1 16 Tryz.underlying22 hi0 hz0 hz1 hz2 rfl (by decide) (.slice none 0 0) 0 [] rfl hon A n c (strVs ss) rfl Hno.out Hxl.out Hxc.out (strVs_one ss) (by simp only [maxLen]; omega) (by omega) (Nat.le_refl _) ?_; clear tok; intro v1 w6 hown6 hgrow6
       have hb6 : Below w5.heap.size w5 w6 := hq5.grown hgrow6 (Nat.le_refl _) (fun g hg => by simp [Value.ownBlock] at hg)
       have hyc6 : ∀ ad, D = some ad → ∀ (j : Nat) (u : Value), (strVs ts)[j]? = some u → w6.cell? (ad.add j) = some u := fun ad hA j u hj => by
         have h1 := Hyc.out ad hA j u hj
         exact (World.cell?_of_block (hb6.block _ (World.block_lt_of_cell? w5 _ h1))).trans h1
       have Hy6 := Lib.hid hyc6
       have Hlt6 := Lib.hid hown6.lt
       clear hyc6 hgrow6)
    | (at_builtin; refine wpList_append_any rfl _ _ 22 rfl w5.heap.size 9 i0 (.string ⟨#[]⟩) 1 16 Tryz.underlying22 hi0 hz0 hz1 hz2 rfl (by decide) v1 (0 + n) ([] ++ strVs ss) rfl hown6 D d de (strVs ts) rfl Hyo.out Hyl.out Hy6.out (strVs_one ts) (by simp only [maxLen]; omega) (by omega) hb6.size ?_; intro v2 w7 hown7 hgrow7
       have hb7 : Below w5.heap.size w5 w7 := hb6.grown hgrow7 hb6.size (fun g hg => (Hlt6.out g hg).1)
       have hx7 := (hb7.block _ hlt).trans Hx.out
       obtain ⟨e0, e1, e2⟩ := cells3 hx7
       clear hgrow7 hx7))
  have hsl := Hz.out.len
  have htl := Hy.out.len
  have hown8 : w7.ownsRow w5.heap.size 9 1 v2 (ss ++ ts).length (strVs (ss ++ ts)) := by
    have e : strVs (ss ++ ts) = [] ++ strVs ss ++ strVs ts := by simp [strVs]
    rw [e, List.length_append, hsl, htl, ← Nat.zero_add n]
    exact hown7
  obtain ⟨E, m, me, rfl, hme, hmc, hS7⟩ := slice_own hown8
  have hm : m ≤ 40 := by rw [hme, List.length_append]; omega
  have hcst : ∀ x ∈ ss ++ ts, x.length ≤ 1000000 := fun x hx => by
    rcases List.mem_append.1 hx with h | h
    · have := Hcs.out x h; omega
    · have := Hct.out x h; omega
  have hq7 := hb7
  have HS := Lib.hid hS7
  have Hcst := Lib.hid hcst
  have Hz := Lib.hid ((Hz.out.below hq7).more hq7.size)
  have Hy := Lib.hid ((Hy.out.below hq7).more hq7.size)
  clear hown7 hown8 hS7 hme hmc hcst hb6 hown6 hon Hxc Hyc Hy6 Hlt6 Hno Hyo Hxl Hyl hb7 hq5
  have HT := Lib.hid ((HT.out.below hq7).more hq7.size)
  have Hbw := Lib.hid (Hbw.out.trans (hq7.mono Hbw.out.size))
  have hx7 := (hq7.block _ hlt).trans Hx.out
  have hlt := (Array.getElem?_eq_some_iff.1 hx7).1
  have Hx := Lib.hid hx7
  clear hx7 hq7
  have hq7 : Below w7.heap.size w7 w7 := Below.refl _ _
  have H := Lib.hid (width_Columns Ai n2 ci A2 m2 c2 wd T A n c ss p q u p2 q2 w7 ((HT.out.below hq7).more hq7.size) hn2 hm2 Hcb.out ((Hz.out.below hq7).more hq7.size) (by omega) (fun x hx => by have := Hcs.out x hx; omega) ((HG.out.wid.below Hbw.out).below hq7) ((HG.out.sca.below Hbw.out).below hq7))
  refine H.out.mono ?_
  clear H e0 e1 e2
  rintro e w8 ⟨rfl, hb⟩
  have hq8 := hq7.trans (hb.mono hq7.size)
  clear hb hq7
  have hx8 := (hq8.block _ hlt).trans Hx.out
  have e0 := cell_blk hx8 0
  have e1 := cell_blk hx8 1
  have e2 := cell_blk hx8 2
  clear hx8
  have H := Lib.hid (width_Columns Ai n2 ci A2 m2 c2 wd T D d de ts p q u p2 q2 w8 ((HT.out.below hq8).more hq8.size) hn2 hm2 Hcb.out ((Hy.out.below hq8).more hq8.size) (by omega) (fun x hx => by have := Hct.out x hx; omega) ((HG.out.wid.below Hbw.out).below hq8) ((HG.out.sca.below Hbw.out).below hq8))
  go_wp2_with fail
  refine H.out.mono ?_
  clear H e0 e1 e2
  rintro e w9 ⟨rfl, hb⟩
  have hq9 := hq8.trans (hb.mono hq8.size)
  clear hb hq8
  have hx9 := (hq9.block _ hlt).trans Hx.out
  have e0 := cell_blk hx9 0
  have e1 := cell_blk hx9 1
  have e2 := cell_blk hx9 2
  clear hx9
  have H := Lib.hid (width_Columns Ai n2 ci A2 m2 c2 wd T E m me (ss ++ ts) p q u p2 q2 w9 ((HT.out.below hq9).more hq9.size) hn2 hm2 Hcb.out ((HS.out.below hq9).more hq9.size) (by omega) Hcst.out ((HG.out.wid.below Hbw.out).below hq9) ((HG.out.sca.below Hbw.out).below hq9))
  go_wp2_with fail
  refine H.out.mono ?_
  clear H e0 e1 e2
  rintro e w10 ⟨rfl, hb⟩
  have hq10 := hq9.trans (hb.mono hq9.size)
  clear hb hq9
  have hx10 := (hq10.block _ hlt).trans Hx.out
  have e0 := cell_blk hx10 0
  have e1 := cell_blk hx10 1
  have e2 := cell_blk hx10 2
  clear hx10
  have hsc := sums_col T wd ss ts
  have hb1 : 0 ≤ (colW T wd ss).1 ∧ (colW T wd ss).1 ≤ 2 * ss.length := by
    have := sumW_ends T wd ss
    rcases col_cases T wd ss with ⟨_, h⟩ | ⟨_, h⟩ <;> rw [h]
    · exact this
    · show (0 : Int) ≤ 0 ∧ (0 : Int) ≤ 2 * (ss.length : Int)
      omega
  have hb2 : 0 ≤ (colW T wd ts).1 ∧ (colW T wd ts).1 ≤ 2 * ts.length := by
    have := sumW_ends T wd ts
    rcases col_cases T wd ts with ⟨_, h⟩ | ⟨_, h⟩ <;> rw [h]
    · exact this
    · show (0 : Int) ≤ 0 ∧ (0 : Int) ≤ 2 * (ts.length : Int)
      omega
  rw [hsl] at hb1
  rw [htl] at hb2
  generalize (colW T wd ss).1 = x at *
  generalize (colW T wd ss).2 = x2 at *
  generalize (colW T wd ts).1 = y at *
  generalize (colW T wd ts).2 = y2 at *
  generalize (colW T wd (ss ++ ts)).1 = z at *
  generalize (colW T wd (ss ++ ts)).2 = z2 at *
  clear e0 e1 e2
  rcases hsc with ⟨rfl, rfl, rfl, rfl⟩ | ⟨ho, hz2, rfl⟩
  · have hx40 : x ≤ 40 := by omega
    have hy40 : y ≤ 40 := by omega
    obtain ⟨hx0, _⟩ := hb1
    obtain ⟨hy0, _⟩ := hb2
    have hwr : IntKind.i64.wrap (x + y) = x + y := by simp [IntKind.wrap, IntKind.bits, IntKind.signed]; omega
    go_wp2_with fail
    go_ret
    exact ⟨rfl, Hbw.out.trans (hq10.mono Hbw.out.size)⟩
  · have g3 : (z2 != 0) = true := by simpa using hz2
    rcases ho with h1 | ⟨rfl, h2⟩
    · have g1 : (x2 != 0) = true := by simpa using h1
      clear h1 hz2 hb1 hb2
      go_wp2_with fail
      go_ret
      exact ⟨rfl, Hbw.out.trans (hq10.mono Hbw.out.size)⟩
    · have g1 : (y2 != 0) = true := by simpa using h2
      clear h2 hz2 hb1 hb2
      go_wp2_with fail
      go_ret
      exact ⟨rfl, Hbw.out.trans (hq10.mono Hbw.out.size)⟩
end Go.Vir


/- For every widths and two lists of texts: columns of two lists are together those of both, one behind the other. (The listed variables are tied to the text.) -/
namespace Go.Proofs.YtjbeaheenfcgdaaGreatDoor
open Go Go.Vir Go.RowKit Go.Proofs Go.ChangeShapes Go.WideShapes Go.ChangeAt

set_option maxHeartbeats 800000 in
set_option maxRecDepth 100000 in
theorem sums_lifted (os : Os) (started : os.Started) (H : Type) (enc : TypeId × Value → H) :
    ReturnsInHanded {} Tryz.checked os 10 .any (fun w args => (Rows.widthSumsSpec.pre enc Tryz.prog Tryz.f10 [] false w args ∧ laidMetH Tryz.prog laidW w) ∧ sizedMet enc Tryz.prog Tryz.f10 (OpenSpec.ofChange Rows.widthSumsSpec) false w args)
      (Rows.widthSumsSpec.post enc Tryz.prog Tryz.f10 false true false false) := by
  refine returns_shaped (C := Tryz.checked) (X := fun w _ => laidMetH Tryz.prog laidW w) (fun _ _ _ hh h => h.of_heap hh) own started (by kernel_rfl) Tryz.func10
    (ChangeSpec.witness_shaped (enc := enc) (C := Tryz.checked) (os := os) (X := fun w _ => laidMetH Tryz.prog laidW w) false (worldW os) #[.agg #[.slice none 0 0, .slice none 0 0, .bool false], .slice none 0 0, .slice none 0 0] 8 (worldW_os os) (worldW_shaped os) (by kernel_rfl) (by kernel_rfl) (by kernel_rfl) (worldW_met os _)) ?_
  intro W base args ds gs before hval0 hW hsh hL
  have hval : ∀ (j : Nat) t v, Tryz.f10.params[j]? = some t → args[j]? = some v → Value.okWide Tryz.prog W .any base t v := hval0
  have hW' := hW
  obtain ⟨p, q, hA0, hV, rfl, _, _⟩ := hW
  have hA : DataW.TrodAll enc Tryz.prog W 0 (fun _ => true) true Tryz.f10.params.toList args.toList ds p := hA0
  rw [Tryz.params10] at hA hval
  obtain ⟨v0, v1, v2, d0, d1, d2, p0, p1, p2, rfl, rfl, rfl, h0, h1, h2⟩ := trodAll_three hA
  obtain ⟨rfl, rfl⟩ := trodVars_none hV
  have hlt : ∀ x ∈ p0 ++ p1 ++ p2, x.block < W.heap.size := fun x hx => by simpa using hW'.lt x (by simpa using hx)
  have hargs : ∀ (W' : World), Below W.heap.size W W' → DataW.TrodAll enc Tryz.prog W' 0 (fun b => decide (b < W.heap.size)) true #[42, 22, 22].toList #[v0, v1, v2].toList [d0, d1, d2] (p0 ++ (p1 ++ p2)) := fun W' hn =>
    trodAll_mk3 (Below.trod laidOut (by kernel_rfl) (of_decide_eq_true (by kernel_rfl)) h0 hn (fun x hx => hlt x (by simp [hx]))) (Below.trod laidOut (by kernel_rfl) (of_decide_eq_true (by kernel_rfl)) h1 hn (fun x hx => hlt x (by simp [hx]))) (Below.trod laidOut (by kernel_rfl) (of_decide_eq_true (by kernel_rfl)) h2 hn (fun x hx => hlt x (by simp [hx])))
  obtain ⟨p, q, u, p2, q2, hG⟩ := gloW_of_laid hsh hL
  have key : Calls Tryz.prog 10 #[v0, v1, v2] W fun e W' => e = .returned (.bool true) ∧ Below W.heap.size W W' := by
    obtain ⟨Ai, ni, ci, Ab, nb, cb, wd, T, rfl, hic, hni, hnb, hbs, hT⟩ := open_widths (hval 0 42 v0 rfl rfl) h0
    obtain ⟨B, n, c, ss, rfl, hn, hz⟩ := open_texts (hval 1 22 v1 rfl rfl) h1
    obtain ⟨B2, n2, c2, ss2, rfl, hn2, hz2⟩ := open_texts (hval 2 22 v2 rfl rfl) h2
    exact law_wsums Ai ni ci Ab nb cb wd T B n c ss B2 n2 c2 ss2 p q u p2 q2 W hG hT hic hni hnb hbs hz hn hz2 hn2
  refine key.mono fun e W' ⟨he, hn⟩ => ?_
  subst he
  exact ⟨_, rfl, _, _, _, [], _, [], hW', trodAll_mk1 (shut_bool Tryz.underlying4 true), hargs _ hn, rfl, hn.frame _, fun h => by cases h⟩

set_option maxRecDepth 100000 in
set_option maxHeartbeats 4000000 in
theorem sums_closed : joinedFacts Tryz.prog 10 Tryz.f10 Rows.widthSumsSpec Rows.widthSumsRow = true := by
  unfold joinedFacts
  repeat' (with_reducible apply and_mk)
  all_goals as_aux_lemma => kernel_rfl
set_option maxHeartbeats 4000000 in
theorem sums_holds : Rows.WidthSumsSaid :=
  OpenClaim.holds_of_wide 10 Tryz.f10 rfl rfl rfl rfl rfl rfl rfl ⟨rfl, rfl, rfl, rfl, rfl⟩ rfl rfl rfl rfl rfl (by kernel_rfl) Tryz.func10 sums_closed
    (of_decide_eq_true (by kernel_rfl)) (by unfold Func.isWrapper; first | (rw [if_pos (by decide +kernel)]; kernel_rfl) | (rw [if_neg (by decide +kernel)]; exact ⟨rfl, rfl⟩))
    (fun os started H enc _ => sums_lifted os started H enc)

theorem sums_card : Rows.WidthSumsCardSaid :=
  Claim7.holds_tied_plain_at .later [] [.data, .handle, .sentinel, .sentinel, .sentinel, .sentinel, .sentinel, .sentinel, .sentinel, .sentinel, .pinned] true (true, "fff8911dbad99978d22468c38c03ea7cf60215aaed4f667c212fe979b0fddc08") true
    sums_holds (fun _ h => by cases h) (by kernel_rfl) (fun _ h => by cases h) widthSums_row_tie rfl ⟨rfl, rfl⟩ (by kernel_rfl) rfl
    (fun f fn hf hfn => by
      obtain rfl : f = 10 := Option.some.inj ((show Tryz.prog.funcNamed "virama/viramalaw15.WidthSums" = some 10 by kernel_rfl).symm.trans hf) |>.symm
      obtain rfl : fn = Tryz.f10 := (Option.some.inj (Tryz.func10.symm.trans hfn)).symm
      exact ⟨by kernel_rfl, fun j t ht => by
        rw [Tryz.params10] at ht
        have hm : t ∈ [42, 22, 22] := by simpa using Array.mem_of_getElem? ht
        have hall : ([42, 22, 22].all fun u => !Tryz.prog.wantsStandIn u) = true := by kernel_rfl
        exact (show Tryz.prog.wantsStandIn t = false by simpa using List.all_eq_true.1 hall t hm)⟩)
    (by kernel_rfl)
#print axioms sums_card
end Go.Proofs.YtjbeaheenfcgdaaGreatDoor

