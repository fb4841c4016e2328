/- For every widths and text: a cluster is 0 wide just if all its scalars are. (The listed variables are tied to the text.) -/
import Derived.Test.YtjbeaheenfcgdaaGreatDoorBm
import Derived.Test.YtjbeaheenfcgdaaGreatDoorBn
import Derived.Test.YtjbeaheenfcgdaaGreatDoorTie
import Derived.Test.YtjbeaheenfcgdaaGreatDoorCards
/- viramalaw15: WidthNone. -/
namespace Go.Vir
open Go Go.RowKit Go.Proofs Go.Shelf
attribute [local go_sem] Oper.semAt_some

set_option maxRecDepth 100000 in
set_option maxHeartbeats 8000000 in
theorem law_wnone (Ai : Option Addr) (ni ci : Nat) (Ab : Option Addr) (nb cb : Nat) (wd : Bool) (T0 : TrV) (s0 : List UInt8) (p q u p2 q2 : Addr) (w : World) (hG : GloW w p q u p2 q2) (hT : Tri w w.heap.size Ai ni Ab nb T0) (hic : ni ≤ ci) (hni : ni ≤ 9223372036854775807) (hnb : nb ≤ 9223372036854775807)
    (hbs : ∀ b ∈ T0.bl, b.length ≤ 9223372036854775807) (hs : s0.length ≤ 9223372036854775807) :
    Calls Tryz.prog 8 #[.agg #[.slice Ai ni ci, .slice Ab nb cb, .bool wd], .string ⟨s0.toArray⟩] w fun e w' => e = .returned (.bool true) ∧ Below w.heap.size w w' := by
  obtain ⟨W0, hW0⟩ : ∃ W0, W0 = w.alloc (.cells #[.slice Ai ni ci, .slice Ab nb cb, .bool wd] 42) := ⟨_, rfl⟩
  have hbw0 : Below w.heap.size w W0 := by rw [hW0]; go_grown
  have hx0 : W0.heap[w.heap.size]? = some (.cells #[.slice Ai ni ci, .slice Ab nb cb, .bool wd] 42 (0, 0)) := by rw [hW0]; exact heap_new rfl
  have hlt := (Array.getElem?_eq_some_iff.1 hx0).1
  have H0 := Lib.hid (law15_shown p q u p2 q2 W0 (hG.below hbw0))
  have HG := Lib.hid hG
  have HT := Lib.hid hT
  have Hbs := Lib.hid hbs
  have Hbw0 := Lib.hid hbw0
  have Hx0 := Lib.hid hx0
  clear hG hT hbs hbw0 hx0
  go_enter Tryz.func8, Tryz.ntmps8
  go_upto_region 1 with fail
  rw [← hW0]
  clear hW0
  go_wp2_with fail
  refine H0.out.mono ?_
  rintro e w1 ⟨rfl, hb1⟩
  have hbw1 := Hbw0.out.trans (hb1.mono Hbw0.out.size)
  have hs1 := hbw1.size
  have hx1 := (hb1.block _ hlt).trans Hx0.out
  have hlt1 := (Array.getElem?_eq_some_iff.1 hx1).1
  have e0 := cell_blk hx1 0
  have e1 := cell_blk hx1 1
  have e2 := cell_blk hx1 2
  have Htab := Lib.hid (law15_Table w.heap.size Ai ni ci Ab nb cb wd T0 w1 (HT.out.below hbw1) hbw1.size hic hnb hni Hbs.out)
  have Hbw1 := Lib.hid hbw1
  have Hx1 := Lib.hid hx1
  clear hbw1 hx1 hb1 H0 Hbw0 Hx0 HT Hbs
  go_wp2_with fail
  refine Htab.out.mono ?_
  rintro e w2 ⟨⟨n2, A2, m2, c2, rfl, hi2, hm2, hn2, hq2, hT2⟩, hb2⟩
  have hbw2 := Hbw1.out.trans (hb2.mono Hbw1.out.size)
  have hx2 := (hb2.block _ hlt1).trans Hx1.out
  have hcb := (cutT_len T0).2.2
  generalize cutT T0 = T at *
  have hcb : ∀ b ∈ T.bl, b.length ≤ 1000000 := fun b hb => by have := hcb b hb; omega
  have Hcb := Lib.hid hcb
  obtain ⟨g1, g2, g3, g4⟩ := widths_stored (.slice Ai n2 ci) (.slice A2 m2 c2) (.bool wd) hx2 hbw2 (Nat.le_refl _)
  have hT3 := (hT2.keep (by rw [g4]; exact Nat.le_refl _) (fun k hk => g3 k (by omega)) (fun k hk _ => g3 k (by omega))).tri (by rw [g4]; exact hbw2.size)
  obtain ⟨w3, hW3⟩ : ∃ w3, w3 = (((w2.setCell ⟨w.heap.size, 0, none⟩ (.slice Ai n2 ci)).setCell ⟨w.heap.size, 1, none⟩ (.slice A2 m2 c2)).setCell ⟨w.heap.size, 2, none⟩ (.bool wd)) := ⟨_, rfl⟩
  rw [← hW3] at g1 g2 hT3
  have hlt := (Array.getElem?_eq_some_iff.1 g1).1
  have hn2 : n2 ≤ 1000000 := by omega
  have hm2 : m2 ≤ 1000000 := by omega
  obtain ⟨e0, e1, e2⟩ := cells3 hx2
  have s0 := frozen_blk hx2 0
  have s1 := frozen_blk hx2 1
  have s2 := frozen_blk hx2 2
  have Hx := Lib.hid g1
  have HT := Lib.hid hT3
  have Hbw := Lib.hid g2
  have hq3 : Below w3.heap.size w3 w3 := Below.refl _ _
  clear g1 g2 g3 g4 hT3 hT2 hcb hx2 hbw2 hb2 hs1 hlt1 Htab Hbw1 Hx1 hi2 hq2
  go_upto_region 3 with fail
  rw [← hW3]
  clear hW3 e0 e1 e2 s0 s1 s2
  have e0 := cell_blk Hx.out 0
  have e1 := cell_blk Hx.out 1
  have e2 := cell_blk Hx.out 2
  have hm : (min (s0.length : Int) 60).toNat = min s0.length 60 := by omega
  go_upto_region 4 with fail
  rw [text_cut, take_min]
  have hsl : (s0.take 60).length ≤ 60 := by rw [List.length_take]; omega
  generalize s0.take 60 = s at *
  clear hm
  rcases clu_cases T wd s with ⟨hck, he⟩ | ⟨hck, he⟩
  · obtain ⟨l, hsl, hofl, hall⟩ := none_clu (wd := wd) hck
    have hH := width_Cluster Ai n2 ci A2 m2 c2 wd T s p q u p2 q2 w3 ((HT.out.below hq3).more hq3.size) hn2 hm2 Hcb.out (by omega) ((HG.out.wid.below Hbw.out).below hq3) ((HG.out.sca.below Hbw.out).below hq3)
    rw [he] at hH
    dsimp only at hH
    have H := Lib.hid hH
    clear hH
    go_wp2_with fail
    refine H.out.mono ?_
    clear H e0 e1 e2
    rintro e w4 ⟨rfl, hb⟩
    have hq4 := hq3.trans (hb.mono hq3.size)
    clear hb hq3
    have hH := scalar_Scalars s p2 q2 w4 (by omega) ((HG.out.sca.below Hbw.out).below hq4)
    unfold ScP at hH
    rw [hsl] at hH
    dsimp only at hH
    have H := Lib.hid hH
    clear hH
    have hLn := (scalars_right s l hsl).2
    have Hofl := Lib.hid hofl
    have Hall := Lib.hid hall
    clear hofl hall hck he hsl
    generalize clusS T wd s = cs at *
    go_wp2_with fail
    refine H.out.mono ?_
    clear H
    rintro e w5 ⟨⟨A, n, c, rfl, hl5⟩, hb⟩
    have hq5 := hq4.trans (hb.mono hq4.size)
    have hx5 := (hq5.block _ hlt).trans Hx.out
    have hltx := (Array.getElem?_eq_some_iff.1 hx5).1
    have Hx5 := Lib.hid hx5
    have Hbw5 := Lib.hid (Hbw.out.trans (hq5.mono Hbw.out.size))
    have Hl5 := Lib.hid hl5
    have hln := hl5.len
    have hn5 : n ≤ 100 := by omega
    have Hq5 := Lib.hid hq5
    clear hb hq4 hq5 hl5 hx5
    go_wp2_with fail
    go_loopw [10, 11] (fun b i wr => ∃ j : Nat, j ≤ n ∧ i = .int .i64 (j : Int) ∧ b = .bool ((l.take j).all fun r => decide (widT T wd r = 0)) ∧ Below w5.heap.size w5 wr) (fun _ i _ => n - (RowKit.intOf i).toNat)
    case atStart => exact ⟨0, Nat.zero_le _, rfl, rfl, Below.refl _ _⟩
    case round =>
      obtain ⟨j, hj, rfl, rfl, hbr⟩ := hrel
      rcases Nat.lt_or_ge j n with hlt2 | hge
      · obtain ⟨lb, lo, rfl, hlb5, hlc⟩ := Hl5.out.at_ (by omega)
        have hjl : j < l.length := by omega
        have hlc0 := hlc j hjl
        have f3 := (cellOf hbr hlb5).trans hlc0
        have hxr := (hbr.block _ hltx).trans Hx5.out
        have f0 := cell_blk hxr 0
        have f1 := cell_blk hxr 1
        have f2 := cell_blk hxr 2
        have hsnoc : (l.take (j + 1)).all (fun r => decide (widT T wd r = 0)) = ((l.take j).all (fun r => decide (widT T wd r = 0)) && decide (widT T wd l[j] = 0)) := by
          rw [List.take_succ_eq_append_getElem hjl, List.all_append]; simp
        have hofj := Hofl.out l[j] (List.getElem_mem hjl)
        have Hof := Lib.hid (fun (W : World) (hW : Below w5.heap.size w5 W) => by
          have hh := width_Of Ai n2 ci A2 m2 c2 wd T l[j] p q u p2 q2 W ((HT.out.below (Hq5.out.trans (hW.mono Hq5.out.size))).more (Hq5.out.trans (hW.mono Hq5.out.size)).size) hn2 hm2 Hcb.out ((HG.out.wid.below Hbw5.out).below hW) ((HG.out.sca.below Hbw5.out).below hW)
          rw [hofj] at hh
          exact hh)
        generalize l[j] = r at *
        generalize (l.take j).all (fun r => decide (widT T wd r = 0)) = bl at *
        have Hsn := Lib.hid hsnoc
        clear hsnoc hofj hlc hxr
        go_upto_region 12 with fail
        refine wp_region_noPanic ?_
        refine wp_region_held_drew (S := (fun V => V.cell? ⟨w.heap.size, 0, none⟩ = some (.slice Ai n2 ci) ∧ V.cell? ⟨w.heap.size, 1, none⟩ = some (.slice A2 m2 c2) ∧ V.cell? ⟨w.heap.size, 2, none⟩ = some (.bool wd) ∧ V.cell? ⟨lb, lo + j, none⟩ = some (.int .i64 r))) (by kernel_rfl) ⟨f0, f1, f2, f3⟩ (fun hHeld => ?_)
        refine wpAnyH_take (i := 0) (v := .agg #[.slice Ai n2 ci, .slice A2 m2 c2, .bool wd]) rfl (by kernel_rfl) (by kernel_rfl) (by kernel_rfl) (fun _ _ _ h => h) (.inl ⟨by rfl, fun V hV => by obtain ⟨c0, c1, c2, c3⟩ := hV; go_simp⟩) hHeld ?_
        try simp only [Act.put, List.getElem_toArray, List.getElem_cons_zero, List.setIfInBounds_toArray, List.set_cons_zero, List.set_cons_succ]
        refine wpAnyH_take (i := 1) (v := .slice (some ⟨lb, lo, none⟩) n c) rfl (by kernel_rfl) (by kernel_rfl) (by kernel_rfl) (fun _ _ _ h => h) (.inl ⟨by rfl, fun V hV => by obtain ⟨c0, c1, c2, c3⟩ := hV; go_simp⟩) hHeld ?_
        try simp only [Act.put, List.getElem_toArray, List.getElem_cons_zero, List.getElem_cons_succ, List.setIfInBounds_toArray, List.set_cons_zero, List.set_cons_succ]
        refine wpAnyH_take (i := 2) (v := .int .i64 (j : Int)) rfl (by kernel_rfl) (by kernel_rfl) (by kernel_rfl) (fun _ _ _ h => h) (.inl ⟨by rfl, fun V hV => by obtain ⟨c0, c1, c2, c3⟩ := hV; go_simp⟩) hHeld ?_
        try simp only [Act.put, List.getElem_toArray, List.getElem_cons_zero, List.getElem_cons_succ, List.setIfInBounds_toArray, List.set_cons_zero, List.set_cons_succ]
        refine wpAnyH_take (i := 3) (v := .pointer (some ⟨lb, lo + j, none⟩)) rfl (by kernel_rfl) (by kernel_rfl) (by kernel_rfl) (fun _ _ _ h => h) (.inl ⟨by rfl, fun V hV => by obtain ⟨c0, c1, c2, c3⟩ := hV; go_simp; try (intros; omega)⟩) hHeld ?_
        try simp only [Act.put, List.getElem_toArray, List.getElem_cons_zero, List.getElem_cons_succ, List.setIfInBounds_toArray, List.set_cons_zero, List.set_cons_succ]
        refine wpAnyH_take (i := 4) (v := .int .i64 r) rfl (by kernel_rfl) (by kernel_rfl) (by kernel_rfl) (fun _ _ _ h => h) (.inl ⟨by rfl, fun V hV => by obtain ⟨c0, c1, c2, c3⟩ := hV; go_simp⟩) hHeld ?_
        try simp only [Act.put, List.getElem_toArray, List.getElem_cons_zero, List.getElem_cons_succ, List.setIfInBounds_toArray, List.set_cons_zero, List.set_cons_succ]
        refine wpAnyH_ready (rs := [5]) (by kernel_rfl) (by simp) ?_
        refine AllReadyH.cons rfl (fun K hK => ?_) AllReadyH.nil
        go_simp
        refine (Hof.out _ hbr.drew).mono ?_
        rintro e wA ⟨rfl, hbA⟩
        have hqA := hbr.drew.trans (hbA.mono hbr.drew.size)
        have hxA := (hqA.block _ hltx).trans Hx5.out
        have hlA := (cellOf hqA hlb5).trans hlc0
        refine hK.out _ _ ⟨cell_blk hxA 0, cell_blk hxA 1, cell_blk hxA 2, hlA⟩ (fun hHeld => ?_)
        clear hK K
        refine wpAnyH_take (i := 6) (v := .tuple #[.int .i64 (widT T wd r), .int .i64 0]) rfl (by kernel_rfl) (by kernel_rfl) (by kernel_rfl) (fun _ _ _ h => h) (.inl ⟨by rfl, fun V hV => by obtain ⟨c0, c1, c2, c3⟩ := hV; go_simp⟩) hHeld ?_
        try simp only [Act.put, List.getElem_toArray, List.getElem_cons_zero, List.getElem_cons_succ, List.setIfInBounds_toArray, List.set_cons_zero, List.set_cons_succ]
        refine wpAnyH_take (i := 7) (v := .int .i64 (widT T wd r)) rfl (by kernel_rfl) (by kernel_rfl) (by kernel_rfl) (fun _ _ _ h => h) (.inl ⟨by rfl, fun V hV => by obtain ⟨c0, c1, c2, c3⟩ := hV; go_simp⟩) hHeld ?_
        try simp only [Act.put, List.getElem_toArray, List.getElem_cons_zero, List.getElem_cons_succ, List.setIfInBounds_toArray, List.set_cons_zero, List.set_cons_succ]
        refine wpAnyH_take (i := 8) (v := .int .i64 0) rfl (by kernel_rfl) (by kernel_rfl) (by kernel_rfl) (fun _ _ _ h => h) (.inl ⟨by rfl, fun V hV => by obtain ⟨c0, c1, c2, c3⟩ := hV; go_simp⟩) hHeld ?_
        try simp only [Act.put, List.getElem_toArray, List.getElem_cons_zero, List.getElem_cons_succ, List.setIfInBounds_toArray, List.set_cons_zero, List.set_cons_succ]
        refine wpAnyH_take (i := 9) (v := .int .i64 (widT T wd r)) rfl (by kernel_rfl) (by kernel_rfl) (by kernel_rfl) (fun _ _ _ h => h) (.inl ⟨by rfl, fun V hV => by obtain ⟨c0, c1, c2, c3⟩ := hV; go_simp⟩) hHeld ?_
        try simp only [Act.put, List.getElem_toArray, List.getElem_cons_zero, List.getElem_cons_succ, List.setIfInBounds_toArray, List.set_cons_zero, List.set_cons_succ]
        refine wpAnyH_take (i := 10) (v := .int .i64 0) rfl (by kernel_rfl) (by kernel_rfl) (by kernel_rfl) (fun _ _ _ h => h) (.inl ⟨by rfl, fun V hV => by obtain ⟨c0, c1, c2, c3⟩ := hV; go_simp⟩) hHeld ?_
        try simp only [Act.put, List.getElem_toArray, List.getElem_cons_zero, List.getElem_cons_succ, List.setIfInBounds_toArray, List.set_cons_zero, List.set_cons_succ]
        refine wpAnyH_done (by kernel_rfl) ?_ _
        refine NoPanic.normal ?_
        rcases bl with _ | _
        · go_wp2_with fail
          go_roundw
          case rel => exact ⟨j + 1, by omega, by go_num, by rw [Hsn.out] <;> rfl, hqA⟩
          case measure => simp [RowKit.intOf]; omega
        · have hd : (widT T wd r == 0) = decide (widT T wd r = 0) := by rw [Bool.eq_iff_iff]; simp
          go_wp2_with fail
          go_roundw
          case rel => exact ⟨j + 1, by omega, by go_num, by rw [Hsn.out, Bool.true_and] <;> first | exact congrArg Value.bool hd | rfl, hqA⟩
          case measure => simp [RowKit.intOf]; omega
      · have hfull : (l.take j).all (fun r => decide (widT T wd r = 0)) = l.all (fun r => decide (widT T wd r = 0)) := by rw [List.take_of_length_le (by omega)]
        rw [hfull]
        have e5 : ((cs == 0) == l.all (fun r => decide (widT T wd r = 0))) = true := by rw [← Hall.out, show (cs == 0) = decide (cs = 0) by rw [Bool.eq_iff_iff]; simp]; simp
        generalize l.all (fun r => decide (widT T wd r = 0)) = bl at *
        clear hfull
        go_wp2_with fail
        go_ret
        exact ⟨rfl, Hbw5.out.trans (hbr.mono Hbw5.out.size)⟩
  · have hne := none_err hck
    rcases hne with hc | ⟨hc, hsl⟩
    · rw [hc] at he
      have hH := width_Cluster Ai n2 ci A2 m2 c2 wd T s p q u p2 q2 w3 ((HT.out.below hq3).more hq3.size) hn2 hm2 Hcb.out (by omega) ((HG.out.wid.below Hbw.out).below hq3) ((HG.out.sca.below Hbw.out).below hq3)
      rw [he] at hH
      dsimp only at hH
      have H := Lib.hid hH
      clear hH
      go_wp2_with fail
      refine H.out.mono ?_
      clear H e0 e1 e2
      rintro e w4 ⟨rfl, hb⟩
      have hq4 := hq3.trans (hb.mono hq3.size)
      clear hb hq3
      rcases hsl : scalarsU s with _ | l
      · have hH := scalar_Scalars s p2 q2 w4 (by omega) ((HG.out.sca.below Hbw.out).below hq4)
        unfold ScP at hH
        rw [hsl] at hH
        dsimp only at hH
        have H := Lib.hid hH
        clear hH
        go_wp2_with fail
        refine H.out.mono ?_
        clear H
        rintro e w5 ⟨rfl, hb⟩
        have hq5 := hq4.trans (hb.mono hq4.size)
        go_wp2_with fail
        go_ret
        exact ⟨rfl, Hbw.out.trans (hq5.mono Hbw.out.size)⟩
      · have hH := scalar_Scalars s p2 q2 w4 (by omega) ((HG.out.sca.below Hbw.out).below hq4)
        unfold ScP at hH
        rw [hsl] at hH
        dsimp only at hH
        have H := Lib.hid hH
        clear hH
        go_wp2_with fail
        refine H.out.mono ?_
        clear H
        rintro e w5 ⟨⟨A, n, c, rfl, _⟩, hb⟩
        have hq5 := hq4.trans (hb.mono hq4.size)
        go_wp2_with fail
        go_ret
        exact ⟨rfl, Hbw.out.trans (hq5.mono Hbw.out.size)⟩
    · rw [hc] at he
      have hH := width_Cluster Ai n2 ci A2 m2 c2 wd T s p q u p2 q2 w3 ((HT.out.below hq3).more hq3.size) hn2 hm2 Hcb.out (by omega) ((HG.out.wid.below Hbw.out).below hq3) ((HG.out.sca.below Hbw.out).below hq3)
      rw [he] at hH
      dsimp only at hH
      have H := Lib.hid hH
      clear hH
      go_wp2_with fail
      refine H.out.mono ?_
      clear H e0 e1 e2
      rintro e w4 ⟨rfl, hb⟩
      have hq4 := hq3.trans (hb.mono hq3.size)
      clear hb hq3
      have hH := scalar_Scalars s p2 q2 w4 (by omega) ((HG.out.sca.below Hbw.out).below hq4)
      unfold ScP at hH
      rw [hsl] at hH
      dsimp only at hH
      have H := Lib.hid hH
      clear hH
      go_wp2_with fail
      refine H.out.mono ?_
      clear H
      rintro e w5 ⟨rfl, hb⟩
      have hq5 := hq4.trans (hb.mono hq4.size)
      go_wp2_with fail
      go_ret
      exact ⟨rfl, Hbw.out.trans (hq5.mono Hbw.out.size)⟩
end Go.Vir


/- For every widths and text: a cluster is 0 wide just if all its scalars are. (The listed variables are tied to the text.) -/
namespace Go.Proofs.YtjbeaheenfcgdaaGreatDoor
open Go Go.Vir Go.RowKit Go.Proofs Go.ChangeShapes Go.WideShapes Go.ChangeAt

set_option maxHeartbeats 800000 in
set_option maxRecDepth 100000 in
theorem none_lifted (os : Os) (started : os.Started) (H : Type) (enc : TypeId × Value → H) :
    ReturnsInHanded {} Tryz.checked os 8 .any (fun w args => (Rows.widthNoneSpec.pre enc Tryz.prog Tryz.f8 [] false w args ∧ laidMetH Tryz.prog laidW w) ∧ sizedMet enc Tryz.prog Tryz.f8 (OpenSpec.ofChange Rows.widthNoneSpec) false w args)
      (Rows.widthNoneSpec.post enc Tryz.prog Tryz.f8 false true false false) := by
  refine returns_shaped (C := Tryz.checked) (X := fun w _ => laidMetH Tryz.prog laidW w) (fun _ _ _ hh h => h.of_heap hh) own started (by kernel_rfl) Tryz.func8
    (ChangeSpec.witness_shaped (enc := enc) (C := Tryz.checked) (os := os) (X := fun w _ => laidMetH Tryz.prog laidW w) false (worldW os) #[.agg #[.slice none 0 0, .slice none 0 0, .bool false], .string ⟨#[]⟩] 8 (worldW_os os) (worldW_shaped os) (by kernel_rfl) (by kernel_rfl) (by kernel_rfl) (worldW_met os _)) ?_
  intro W base args ds gs before hval0 hW hsh hL
  have hval : ∀ (j : Nat) t v, Tryz.f8.params[j]? = some t → args[j]? = some v → Value.okWide Tryz.prog W .any base t v := hval0
  have hW' := hW
  obtain ⟨p, q, hA0, hV, rfl, _, _⟩ := hW
  have hA : DataW.TrodAll enc Tryz.prog W 0 (fun _ => true) true Tryz.f8.params.toList args.toList ds p := hA0
  rw [Tryz.params8] at hA hval
  obtain ⟨v0, v1, d0, d1, p0, p1, rfl, rfl, rfl, h0, h1⟩ := trodAll_two hA
  obtain ⟨rfl, rfl⟩ := trodVars_none hV
  have hlt : ∀ x ∈ p0 ++ p1, x.block < W.heap.size := fun x hx => by simpa using hW'.lt x (by simpa using hx)
  have hargs : ∀ (W' : World), Below W.heap.size W W' → DataW.TrodAll enc Tryz.prog W' 0 (fun b => decide (b < W.heap.size)) true #[42, 9].toList #[v0, v1].toList [d0, d1] (p0 ++ p1) := fun W' hn =>
    trodAll_mk2 (Below.trod laidOut (by kernel_rfl) (of_decide_eq_true (by kernel_rfl)) h0 hn (fun x hx => hlt x (by simp [hx]))) (Below.trod laidOut (by kernel_rfl) (of_decide_eq_true (by kernel_rfl)) h1 hn (fun x hx => hlt x (by simp [hx])))
  obtain ⟨p, q, u, p2, q2, hG⟩ := gloW_of_laid hsh hL
  have key : Calls Tryz.prog 8 #[v0, v1] W fun e W' => e = .returned (.bool true) ∧ Below W.heap.size W W' := by
    obtain ⟨Ai, ni, ci, Ab, nb, cb, wd, T, rfl, hic, hni, hnb, hbs, hT⟩ := open_widths (hval 0 42 v0 rfl rfl) h0
    obtain ⟨s, rfl, hs⟩ := open_text (hval 1 9 v1 rfl rfl) h1
    exact law_wnone Ai ni ci Ab nb cb wd T s p q u p2 q2 W hG hT hic hni hnb hbs hs
  refine key.mono fun e W' ⟨he, hn⟩ => ?_
  subst he
  exact ⟨_, rfl, _, _, _, [], _, [], hW', trodAll_mk1 (shut_bool Tryz.underlying4 true), hargs _ hn, rfl, hn.frame _, fun h => by cases h⟩

set_option maxRecDepth 100000 in
set_option maxHeartbeats 4000000 in
theorem none_closed : joinedFacts Tryz.prog 8 Tryz.f8 Rows.widthNoneSpec Rows.widthNoneRow = true := by
  unfold joinedFacts
  repeat' (with_reducible apply and_mk)
  all_goals as_aux_lemma => kernel_rfl
set_option maxHeartbeats 4000000 in
theorem none_holds : Rows.WidthNoneSaid :=
  OpenClaim.holds_of_wide 8 Tryz.f8 rfl rfl rfl rfl rfl rfl rfl ⟨rfl, rfl, rfl, rfl, rfl⟩ rfl rfl rfl rfl rfl (by kernel_rfl) Tryz.func8 none_closed
    (of_decide_eq_true (by kernel_rfl)) (by unfold Func.isWrapper; first | (rw [if_pos (by decide +kernel)]; kernel_rfl) | (rw [if_neg (by decide +kernel)]; exact ⟨rfl, rfl⟩))
    (fun os started H enc _ => none_lifted os started H enc)

theorem none_card : Rows.WidthNoneCardSaid :=
  Claim7.holds_tied_plain_at .later [] [.data, .handle, .sentinel, .sentinel, .sentinel, .sentinel, .sentinel, .sentinel, .sentinel, .sentinel, .pinned] true (true, "fff8911dbad99978d22468c38c03ea7cf60215aaed4f667c212fe979b0fddc08") true
    none_holds (fun _ h => by cases h) (by kernel_rfl) (fun _ h => by cases h) widthNone_row_tie rfl ⟨rfl, rfl⟩ (by kernel_rfl) rfl
    (fun f fn hf hfn => by
      obtain rfl : f = 8 := Option.some.inj ((show Tryz.prog.funcNamed "virama/viramalaw15.WidthNone" = some 8 by kernel_rfl).symm.trans hf) |>.symm
      obtain rfl : fn = Tryz.f8 := (Option.some.inj (Tryz.func8.symm.trans hfn)).symm
      exact ⟨by kernel_rfl, fun j t ht => by
        rw [Tryz.params8] at ht
        have hm : t ∈ [42, 9] := by simpa using Array.mem_of_getElem? ht
        have hall : ([42, 9].all fun u => !Tryz.prog.wantsStandIn u) = true := by kernel_rfl
        exact (show Tryz.prog.wantsStandIn t = false by simpa using List.all_eq_true.1 hall t hm)⟩)
    (by kernel_rfl)
#print axioms none_card
end Go.Proofs.YtjbeaheenfcgdaaGreatDoor

