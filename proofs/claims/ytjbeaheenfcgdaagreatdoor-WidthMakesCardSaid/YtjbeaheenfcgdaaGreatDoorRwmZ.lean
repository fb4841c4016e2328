/- For every text, with A wide or not, and number: the widths that a file makes are those that the document says. (The listed variables are tied to the text.) -/
import Derived.Test.YtjbeaheenfcgdaaGreatDoorDm
import Derived.Test.YtjbeaheenfcgdaaGreatDoorDq
import Derived.Test.YtjbeaheenfcgdaaGreatDoorTie
import Derived.Test.YtjbeaheenfcgdaaGreatDoorCards
namespace Go.Vir
open Go Go.RowKit Go.Proofs Go.Shelf
attribute [local go_sem] Oper.semAt_some

theorem make_lens (s : List UInt8) (wd : Bool) : (makeW s wd).1.ix.length ≤ 4352 ∧ (makeW s wd).1.bl.length ≤ 4352 ∧ ∀ b ∈ (makeW s wd).1.bl, b.length ≤ 1000000 := by
  unfold makeW
  split
  · obtain ⟨h1, h2, h3⟩ := build_lens (readB s widNm 0 false).1
    exact ⟨Nat.le_of_eq h1, h2, h3⟩
  · exact ⟨Nat.zero_le _, Nat.zero_le _, fun b hb => by cases hb⟩

set_option maxRecDepth 100000 in
set_option maxHeartbeats 8000000 in
theorem law_wmakes (s0 : List UInt8) (wd : Bool) (r : Int) (p q u p2 q2 : Addr) (w : World) (hG : GloW w p q u p2 q2) (hs : s0.length ≤ 9223372036854775807) :
    Calls Tryz.prog 4 #[.string ⟨s0.toArray⟩, .bool wd, .int .i64 r] w fun e w' => e = .returned (.bool true) ∧ Below w.heap.size w w' := by
  have H0 := Lib.hid (law15_shown p q u p2 q2 w hG)
  have HG := Lib.hid hG
  clear hG
  go_enter Tryz.func4, Tryz.ntmps4
  go_wp2_with fail
  refine H0.out.mono ?_
  clear H0
  rintro e w1 ⟨rfl, hb1⟩
  have hm : (min (s0.length : Int) 600).toNat = min s0.length 600 := by omega
  go_upto_region 3 with fail
  rw [text_cut, take_min]
  have hsl : (s0.take 600).length ≤ 600 := by rw [List.length_take]; omega
  generalize s0.take 600 = s at *
  clear hm
  have H1 := Lib.hid (width_Make s wd w1 (HG.out.prp.below hb1) (by omega))
  have H2 := Lib.hid (fun (W : World) => ref15_Make s wd W (by omega))
  obtain ⟨l1, l2, l3⟩ := make_lens s wd
  have Hb1 := Lib.hid hb1
  clear hb1
  generalize makeW s wd = M at *
  obtain ⟨T, wd2, ln, er⟩ := M
  have l1 : T.ix.length ≤ 4352 := l1
  have l2 : T.bl.length ≤ 4352 := l2
  have Hbs := Lib.hid (show ∀ b ∈ T.bl, b.length ≤ 1000000 from l3)
  clear l3
  go_wp2_with fail
  refine H1.out.mono ?_
  clear H1
  rintro e w2 ⟨⟨Ai, ni, ci, Ab, nb, cb, rfl, _, _, hT⟩, hb2⟩
  have hT : Tri w2 w2.heap.size Ai ni Ab nb T := hT
  have hni : ni ≤ 1000000 := by have := hT.ix.len; omega
  have hnb : nb ≤ 1000000 := by have := hT.bl.len; omega
  dsimp only
  obtain ⟨w3, hW3⟩ : ∃ w3, w3 = w2.alloc (.cells #[.slice Ai ni ci, .slice Ab nb cb, .bool wd2] 42) := ⟨_, rfl⟩
  obtain ⟨b8, hb8⟩ : ∃ b8, b8 = w2.heap.size := ⟨_, rfl⟩
  have hb3 : Below w2.heap.size w2 w3 := by rw [hW3]; go_grown
  have hx3 : w3.heap[b8]? = some (.cells #[.slice Ai ni ci, .slice Ab nb cb, .bool wd2] 42 (0, 0)) := by rw [hW3, hb8]; exact heap_new rfl
  have hlt8 := (Array.getElem?_eq_some_iff.1 hx3).1
  have Hbw3 := Lib.hid (Hb1.out.trans ((hb2.trans (hb3.mono hb2.size)).mono Hb1.out.size))
  have HT := Lib.hid ((hT.below hb3).more hb3.size)
  have Hx8 := Lib.hid hx3
  clear hT hb2 hb3 hx3 Hb1
  go_upto_region 4 with fail
  rw [← hW3, ← hb8]
  clear hW3 hb8
  go_wp2_with fail
  refine (H2.out w3).mono ?_
  clear H2
  rintro e w4 ⟨⟨Di, mi, di, Db, mb, db, rfl, _, _, hU⟩, hb4⟩
  have hU : Tri w4 w4.heap.size Di mi Db mb T := hU
  have hmi : mi ≤ 1000000 := by have := hU.ix.len; omega
  have hmb : mb ≤ 1000000 := by have := hU.bl.len; omega
  dsimp only
  obtain ⟨w5, hW5⟩ : ∃ w5, w5 = w4.alloc (.cells #[.slice Di mi di, .slice Db mb db, .bool wd2] 42) := ⟨_, rfl⟩
  obtain ⟨b11, hb11⟩ : ∃ b11, b11 = w4.heap.size := ⟨_, rfl⟩
  have hb5 : Below w4.heap.size w4 w5 := by rw [hW5]; go_grown
  have hb45 := hb4.trans (hb5.mono hb4.size)
  have hx5 : w5.heap[b11]? = some (.cells #[.slice Di mi di, .slice Db mb db, .bool wd2] 42 (0, 0)) := by rw [hW5, hb11]; exact heap_new rfl
  have hlt11 := (Array.getElem?_eq_some_iff.1 hx5).1
  have hx85 := (hb45.block _ hlt8).trans Hx8.out
  have hlt8 := (Array.getElem?_eq_some_iff.1 hx85).1
  have Hbw := Lib.hid (Hbw3.out.trans (hb45.mono Hbw3.out.size))
  have HT := Lib.hid ((HT.out.below hb45).more hb45.size)
  have HU := Lib.hid ((hU.below hb5).more hb5.size)
  have Hx8 := Lib.hid hx85
  have Hx11 := Lib.hid hx5
  have f0 := cell_blk hx85 0
  have f1 := cell_blk hx85 1
  have f2 := cell_blk hx85 2
  clear hU hb4 hb5 hb45 hx5 hx85 Hbw3
  go_upto_region 5 with fail
  rw [← hW5, ← hb11]
  clear hW5 hb11
  have H := Lib.hid (width_Of Ai ni ci Ab nb cb wd2 T r p q u p2 q2 w5 HT.out hni hnb Hbs.out (HG.out.wid.below Hbw.out) (HG.out.sca.below Hbw.out))
  go_wp2_with fail
  refine H.out.mono ?_
  clear H f0 f1 f2
  rintro e w6 ⟨rfl, hb6⟩
  have hy6 := (hb6.block _ hlt11).trans Hx11.out
  have g0 := cell_blk hy6 0
  have g1 := cell_blk hy6 1
  have g2 := cell_blk hy6 2
  have H := Lib.hid (ref15_Of Di mi di Db mb db wd2 T r w6 ((HU.out.below hb6).more hb6.size) hmi hmb Hbs.out)
  clear hy6
  go_wp2_with fail
  refine H.out.mono ?_
  clear H g0 g1 g2
  rintro e w8 ⟨rfl, hb8⟩
  have hq8 := hb6.trans (hb8.mono hb6.size)
  have hx8 := (hq8.block _ hlt8).trans Hx8.out
  have hy8 := (hq8.block _ hlt11).trans Hx11.out
  have f0 := cell_blk hx8 0
  have f1 := cell_blk hx8 1
  have f2 := cell_blk hx8 2
  have g0 := cell_blk hy8 0
  have g1 := cell_blk hy8 1
  have g2 := cell_blk hy8 2
  have Hsame := Lib.hid (fun (W : World) (hW : Below w5.heap.size w5 W) => by
    have hh := ref06_Same Ai Di ni ci mi di Ab Db nb cb mb db T T W ((HT.out.below hW).more hW.size) ((HU.out.below hW).more hW.size) hni hnb Hbs.out
    rw [decide_eq_true rfl] at hh
    exact hh)
  have Hr1 := Lib.hid (fun (W : World) (hW : Below w5.heap.size w5 W) => width_Right Ai ni ci Ab nb cb wd2 T W ((HT.out.below hW).more hW.size) hni hnb Hbs.out)
  have Hr2 := Lib.hid (fun (W : World) (hW : Below w5.heap.size w5 W) => ref15_Right Di mi di Db mb db wd2 T W ((HU.out.below hW).more hW.size) hmi hmb Hbs.out)
  generalize (ofW T wd2 r).1 = x at *
  generalize (ofW T wd2 r).2 = x2 at *
  clear hb6 hb8 hx8 hy8
  go_upto_region 7 with fail
  refine wp_region_noPanic ?_
  refine wp_region_held_drew (S := (fun V => V.cell? ⟨b8, 0, none⟩ = some (.slice Ai ni ci) ∧ V.cell? ⟨b8, 1, none⟩ = some (.slice Ab nb cb) ∧ V.cell? ⟨b8, 2, none⟩ = some (.bool wd2) ∧ V.cell? ⟨b11, 0, none⟩ = some (.slice Di mi di) ∧ V.cell? ⟨b11, 1, none⟩ = some (.slice Db mb db) ∧ V.cell? ⟨b11, 2, none⟩ = some (.bool wd2))) (by kernel_rfl) ⟨f0, f1, f2, g0, g1, g2⟩ (fun hHeld => ?_)
  refine wpAnyH_take (i := 0) (v := .bool true) rfl (by kernel_rfl) (by kernel_rfl) (by kernel_rfl) (fun _ _ _ h => h) (.inl ⟨by rfl, fun V hV => by obtain ⟨c0, c1, c2, c3, c4, c5⟩ := hV; go_simp⟩) hHeld ?_
  try simp only [Act.put, qB, qC, qE, qF, qG]
  refine wpAnyH_take (i := 1) (v := .bool true) rfl (by kernel_rfl) (by kernel_rfl) (by kernel_rfl) (fun _ _ _ h => h) (.inl ⟨by rfl, fun V hV => by obtain ⟨c0, c1, c2, c3, c4, c5⟩ := hV; go_simp⟩) hHeld ?_
  try simp only [Act.put, qB, qC, qD, qE, qF, qG]
  refine wpAnyH_take (i := 2) (v := .pointer (some ⟨b8, 0, none⟩)) rfl (by kernel_rfl) (by kernel_rfl) (by kernel_rfl) (fun _ _ _ h => h) (.inl ⟨by rfl, fun V hV => by obtain ⟨c0, c1, c2, c3, c4, c5⟩ := hV; go_simp⟩) hHeld ?_
  try simp only [Act.put, qB, qC, qD, qE, qF, qG]
  refine wpAnyH_take (i := 3) (v := .agg #[.slice Ai ni ci, .slice Ab nb cb]) rfl (by kernel_rfl) (by kernel_rfl) (by kernel_rfl) (fun _ _ _ h => h) (.inl ⟨by rfl, fun V hV => by obtain ⟨c0, c1, c2, c3, c4, c5⟩ := hV; go_simp⟩) hHeld ?_
  try simp only [Act.put, qB, qC, qD, qE, qF, qG]
  refine wpAnyH_take (i := 4) (v := .pointer (some ⟨b11, 0, none⟩)) rfl (by kernel_rfl) (by kernel_rfl) (by kernel_rfl) (fun _ _ _ h => h) (.inl ⟨by rfl, fun V hV => by obtain ⟨c0, c1, c2, c3, c4, c5⟩ := hV; go_simp⟩) hHeld ?_
  try simp only [Act.put, qB, qC, qD, qE, qF, qG]
  refine wpAnyH_take (i := 5) (v := .agg #[.slice Di mi di, .slice Db mb db]) rfl (by kernel_rfl) (by kernel_rfl) (by kernel_rfl) (fun _ _ _ h => h) (.inl ⟨by rfl, fun V hV => by obtain ⟨c0, c1, c2, c3, c4, c5⟩ := hV; go_simp⟩) hHeld ?_
  try simp only [Act.put, qB, qC, qD, qE, qF, qG]
  refine wpAnyH_ready (rs := [6]) (by kernel_rfl) (by simp) ?_
  refine AllReadyH.cons rfl (fun K hK => ?_) AllReadyH.nil
  go_simp
  refine (Hsame.out _ hq8.drew).mono ?_
  rintro e wA ⟨rfl, hbA⟩
  have hqA := hq8.drew.trans (hbA.mono hq8.drew.size)
  have hxA := (hqA.block _ hlt8).trans Hx8.out
  have hyA := (hqA.block _ hlt11).trans Hx11.out
  refine hK.out _ _ ⟨cell_blk hxA 0, cell_blk hxA 1, cell_blk hxA 2, cell_blk hyA 0, cell_blk hyA 1, cell_blk hyA 2⟩ (fun hHeld => ?_)
  clear hK K
  try simp only [Act.put, qB, qC, qD, qE, qF, qG]
  refine wpAnyH_take (i := 7) (v := .bool true) rfl (by kernel_rfl) (by kernel_rfl) (by kernel_rfl) (fun _ _ _ h => h) (.inl ⟨by rfl, fun V hV => by obtain ⟨c0, c1, c2, c3, c4, c5⟩ := hV; go_simp⟩) hHeld ?_
  try simp only [Act.put, qB, qC, qD, qE, qF, qG]
  refine wpAnyH_take (i := 8) (v := .bool true) rfl (by kernel_rfl) (by kernel_rfl) (by kernel_rfl) (fun _ _ _ h => h) (.inl ⟨by rfl, fun V hV => by obtain ⟨c0, c1, c2, c3, c4, c5⟩ := hV; go_simp⟩) hHeld ?_
  try simp only [Act.put, qB, qC, qD, qE, qF, qG]
  refine wpAnyH_take (i := 9) (v := .pointer (some ⟨b8, 2, none⟩)) rfl (by kernel_rfl) (by kernel_rfl) (by kernel_rfl) (fun _ _ _ h => h) (.inl ⟨by rfl, fun V hV => by obtain ⟨c0, c1, c2, c3, c4, c5⟩ := hV; go_simp⟩) hHeld ?_
  try simp only [Act.put, qB, qC, qD, qE, qF, qG]
  refine wpAnyH_take (i := 10) (v := .bool wd2) rfl (by kernel_rfl) (by kernel_rfl) (by kernel_rfl) (fun _ _ _ h => h) (.inl ⟨by rfl, fun V hV => by obtain ⟨c0, c1, c2, c3, c4, c5⟩ := hV; go_simp⟩) hHeld ?_
  try simp only [Act.put, qB, qC, qD, qE, qF, qG]
  refine wpAnyH_take (i := 11) (v := .pointer (some ⟨b11, 2, none⟩)) rfl (by kernel_rfl) (by kernel_rfl) (by kernel_rfl) (fun _ _ _ h => h) (.inl ⟨by rfl, fun V hV => by obtain ⟨c0, c1, c2, c3, c4, c5⟩ := hV; go_simp⟩) hHeld ?_
  try simp only [Act.put, qB, qC, qD, qE, qF, qG]
  refine wpAnyH_take (i := 12) (v := .bool wd2) rfl (by kernel_rfl) (by kernel_rfl) (by kernel_rfl) (fun _ _ _ h => h) (.inl ⟨by rfl, fun V hV => by obtain ⟨c0, c1, c2, c3, c4, c5⟩ := hV; go_simp⟩) hHeld ?_
  try simp only [Act.put, qB, qC, qD, qE, qF, qG]
  refine wpAnyH_take (i := 13) (v := .bool true) rfl (by kernel_rfl) (by kernel_rfl) (by kernel_rfl) (fun _ _ _ h => h) (.inl ⟨by rfl, fun V hV => by obtain ⟨c0, c1, c2, c3, c4, c5⟩ := hV; go_simp⟩) hHeld ?_
  try simp only [Act.put, qB, qC, qD, qE, qF, qG]
  refine wpAnyH_take (i := 14) (v := .bool true) rfl (by kernel_rfl) (by kernel_rfl) (by kernel_rfl) (fun _ _ _ h => h) (.inl ⟨by rfl, fun V hV => by obtain ⟨c0, c1, c2, c3, c4, c5⟩ := hV; go_simp⟩) hHeld ?_
  try simp only [Act.put, qB, qC, qD, qE, qF, qG]
  refine wpAnyH_take (i := 15) (v := .bool true) rfl (by kernel_rfl) (by kernel_rfl) (by kernel_rfl) (fun _ _ _ h => h) (.inl ⟨by rfl, fun V hV => by obtain ⟨c0, c1, c2, c3, c4, c5⟩ := hV; go_simp⟩) hHeld ?_
  try simp only [Act.put, qB, qC, qD, qE, qF, qG]
  refine wpAnyH_take (i := 16) (v := .int .i64 ln) rfl (by kernel_rfl) (by kernel_rfl) (by kernel_rfl) (fun _ _ _ h => h) (.inl ⟨by rfl, fun V hV => by obtain ⟨c0, c1, c2, c3, c4, c5⟩ := hV; go_simp⟩) hHeld ?_
  try simp only [Act.put, qB, qC, qD, qE, qF, qG]
  refine wpAnyH_take (i := 17) (v := .int .i64 ln) rfl (by kernel_rfl) (by kernel_rfl) (by kernel_rfl) (fun _ _ _ h => h) (.inl ⟨by rfl, fun V hV => by obtain ⟨c0, c1, c2, c3, c4, c5⟩ := hV; go_simp⟩) hHeld ?_
  try simp only [Act.put, qB, qC, qD, qE, qF, qG]
  refine wpAnyH_take (i := 18) (v := .bool true) rfl (by kernel_rfl) (by kernel_rfl) (by kernel_rfl) (fun _ _ _ h => h) (.inl ⟨by rfl, fun V hV => by obtain ⟨c0, c1, c2, c3, c4, c5⟩ := hV; go_simp⟩) hHeld ?_
  try simp only [Act.put, qB, qC, qD, qE, qF, qG]
  refine wpAnyH_take (i := 19) (v := .bool true) rfl (by kernel_rfl) (by kernel_rfl) (by kernel_rfl) (fun _ _ _ h => h) (.inl ⟨by rfl, fun V hV => by obtain ⟨c0, c1, c2, c3, c4, c5⟩ := hV; go_simp⟩) hHeld ?_
  try simp only [Act.put, qB, qC, qD, qE, qF, qG]
  refine wpAnyH_take (i := 20) (v := .bool true) rfl (by kernel_rfl) (by kernel_rfl) (by kernel_rfl) (fun _ _ _ h => h) (.inl ⟨by rfl, fun V hV => by obtain ⟨c0, c1, c2, c3, c4, c5⟩ := hV; go_simp⟩) hHeld ?_
  try simp only [Act.put, qB, qC, qD, qE, qF, qG]
  refine wpAnyH_take (i := 21) (v := .int .i64 er) rfl (by kernel_rfl) (by kernel_rfl) (by kernel_rfl) (fun _ _ _ h => h) (.inl ⟨by rfl, fun V hV => by obtain ⟨c0, c1, c2, c3, c4, c5⟩ := hV; go_simp⟩) hHeld ?_
  try simp only [Act.put, qB, qC, qD, qE, qF, qG]
  refine wpAnyH_take (i := 22) (v := .int .i64 er) rfl (by kernel_rfl) (by kernel_rfl) (by kernel_rfl) (fun _ _ _ h => h) (.inl ⟨by rfl, fun V hV => by obtain ⟨c0, c1, c2, c3, c4, c5⟩ := hV; go_simp⟩) hHeld ?_
  try simp only [Act.put, qB, qC, qD, qE, qF, qG]
  refine wpAnyH_take (i := 23) (v := .bool true) rfl (by kernel_rfl) (by kernel_rfl) (by kernel_rfl) (fun _ _ _ h => h) (.inl ⟨by rfl, fun V hV => by obtain ⟨c0, c1, c2, c3, c4, c5⟩ := hV; go_simp⟩) hHeld ?_
  try simp only [Act.put, qB, qC, qD, qE, qF, qG]
  refine wpAnyH_take (i := 24) (v := .bool true) rfl (by kernel_rfl) (by kernel_rfl) (by kernel_rfl) (fun _ _ _ h => h) (.inl ⟨by rfl, fun V hV => by obtain ⟨c0, c1, c2, c3, c4, c5⟩ := hV; go_simp⟩) hHeld ?_
  try simp only [Act.put, qB, qC, qD, qE, qF, qG]
  refine wpAnyH_take (i := 25) (v := .bool true) rfl (by kernel_rfl) (by kernel_rfl) (by kernel_rfl) (fun _ _ _ h => h) (.inl ⟨by rfl, fun V hV => by obtain ⟨c0, c1, c2, c3, c4, c5⟩ := hV; go_simp⟩) hHeld ?_
  try simp only [Act.put, qB, qC, qD, qE, qF, qG]
  refine wpAnyH_take (i := 26) (v := .agg #[.slice Ai ni ci, .slice Ab nb cb, .bool wd2]) rfl (by kernel_rfl) (by kernel_rfl) (by kernel_rfl) (fun _ _ _ h => h) (.inl ⟨by rfl, fun V hV => by obtain ⟨c0, c1, c2, c3, c4, c5⟩ := hV; go_simp⟩) hHeld ?_
  try simp only [Act.put, qB, qC, qD, qE, qF, qG]
  refine wpAnyH_take (i := 28) (v := .agg #[.slice Di mi di, .slice Db mb db, .bool wd2]) rfl (by kernel_rfl) (by kernel_rfl) (by kernel_rfl) (fun _ _ _ h => h) (.inl ⟨by rfl, fun V hV => by obtain ⟨c0, c1, c2, c3, c4, c5⟩ := hV; go_simp⟩) hHeld ?_
  try simp only [Act.put, qB, qC, qD, qE, qF, qG]
  refine wpAnyH_ready (rs := [27]) (by kernel_rfl) (by simp) ?_
  refine AllReadyH.cons rfl (fun K hK => ?_) AllReadyH.nil
  go_simp
  refine (Hr1.out _ hqA).mono ?_
  rintro e wB ⟨rfl, hbB⟩
  have hqB := hqA.trans (hbB.mono hqA.size)
  have hxB := (hqB.block _ hlt8).trans Hx8.out
  have hyB := (hqB.block _ hlt11).trans Hx11.out
  refine hK.out _ _ ⟨cell_blk hxB 0, cell_blk hxB 1, cell_blk hxB 2, cell_blk hyB 0, cell_blk hyB 1, cell_blk hyB 2⟩ (fun hHeld => ?_)
  clear hK K
  try simp only [Act.put, qB, qC, qD, qE, qF, qG]
  refine wpAnyH_ready (rs := [29]) (by kernel_rfl) (by simp) ?_
  refine AllReadyH.cons rfl (fun K hK => ?_) AllReadyH.nil
  go_simp
  refine (Hr2.out _ hqB).mono ?_
  rintro e wC ⟨rfl, hbC⟩
  have hqC := hqB.trans (hbC.mono hqB.size)
  have hxC := (hqC.block _ hlt8).trans Hx8.out
  have hyC := (hqC.block _ hlt11).trans Hx11.out
  refine hK.out _ _ ⟨cell_blk hxC 0, cell_blk hxC 1, cell_blk hxC 2, cell_blk hyC 0, cell_blk hyC 1, cell_blk hyC 2⟩ (fun hHeld => ?_)
  clear hK K
  try simp only [Act.put, qB, qC, qD, qE, qF, qG]
  refine wpAnyH_take (i := 30) (v := .bool true) rfl (by kernel_rfl) (by kernel_rfl) (by kernel_rfl) (fun _ _ _ h => h) (.inl ⟨by rfl, fun V hV => by obtain ⟨c0, c1, c2, c3, c4, c5⟩ := hV; go_simp⟩) hHeld ?_
  try simp only [Act.put, qB, qC, qD, qE, qF, qG]
  refine wpAnyH_take (i := 31) (v := .bool true) rfl (by kernel_rfl) (by kernel_rfl) (by kernel_rfl) (fun _ _ _ h => h) (.inl ⟨by rfl, fun V hV => by obtain ⟨c0, c1, c2, c3, c4, c5⟩ := hV; go_simp⟩) hHeld ?_
  try simp only [Act.put, qB, qC, qD, qE, qF, qG]
  refine wpAnyH_take (i := 32) (v := .bool true) rfl (by kernel_rfl) (by kernel_rfl) (by kernel_rfl) (fun _ _ _ h => h) (.inl ⟨by rfl, fun V hV => by obtain ⟨c0, c1, c2, c3, c4, c5⟩ := hV; go_simp⟩) hHeld ?_
  try simp only [Act.put, qB, qC, qD, qE, qF, qG]
  refine wpAnyH_take (i := 33) (v := .int .i64 x) rfl (by kernel_rfl) (by kernel_rfl) (by kernel_rfl) (fun _ _ _ h => h) (.inl ⟨by rfl, fun V hV => by obtain ⟨c0, c1, c2, c3, c4, c5⟩ := hV; go_simp⟩) hHeld ?_
  try simp only [Act.put, qB, qC, qD, qE, qF, qG]
  refine wpAnyH_take (i := 34) (v := .int .i64 x) rfl (by kernel_rfl) (by kernel_rfl) (by kernel_rfl) (fun _ _ _ h => h) (.inl ⟨by rfl, fun V hV => by obtain ⟨c0, c1, c2, c3, c4, c5⟩ := hV; go_simp⟩) hHeld ?_
  try simp only [Act.put, qB, qC, qD, qE, qF, qG]
  refine wpAnyH_take (i := 35) (v := .bool true) rfl (by kernel_rfl) (by kernel_rfl) (by kernel_rfl) (fun _ _ _ h => h) (.inl ⟨by rfl, fun V hV => by obtain ⟨c0, c1, c2, c3, c4, c5⟩ := hV; go_simp⟩) hHeld ?_
  try simp only [Act.put, qB, qC, qD, qE, qF, qG]
  refine wpAnyH_take (i := 36) (v := .bool true) rfl (by kernel_rfl) (by kernel_rfl) (by kernel_rfl) (fun _ _ _ h => h) (.inl ⟨by rfl, fun V hV => by obtain ⟨c0, c1, c2, c3, c4, c5⟩ := hV; go_simp⟩) hHeld ?_
  try simp only [Act.put, qB, qC, qD, qE, qF, qG]
  refine wpAnyH_take (i := 37) (v := .bool true) rfl (by kernel_rfl) (by kernel_rfl) (by kernel_rfl) (fun _ _ _ h => h) (.inl ⟨by rfl, fun V hV => by obtain ⟨c0, c1, c2, c3, c4, c5⟩ := hV; go_simp⟩) hHeld ?_
  try simp only [Act.put, qB, qC, qD, qE, qF, qG]
  refine wpAnyH_take (i := 38) (v := .int .i64 x2) rfl (by kernel_rfl) (by kernel_rfl) (by kernel_rfl) (fun _ _ _ h => h) (.inl ⟨by rfl, fun V hV => by obtain ⟨c0, c1, c2, c3, c4, c5⟩ := hV; go_simp⟩) hHeld ?_
  try simp only [Act.put, qB, qC, qD, qE, qF, qG]
  refine wpAnyH_take (i := 39) (v := .int .i64 x2) rfl (by kernel_rfl) (by kernel_rfl) (by kernel_rfl) (fun _ _ _ h => h) (.inl ⟨by rfl, fun V hV => by obtain ⟨c0, c1, c2, c3, c4, c5⟩ := hV; go_simp⟩) hHeld ?_
  try simp only [Act.put, qB, qC, qD, qE, qF, qG]
  refine wpAnyH_take (i := 40) (v := .bool true) rfl (by kernel_rfl) (by kernel_rfl) (by kernel_rfl) (fun _ _ _ h => h) (.inl ⟨by rfl, fun V hV => by obtain ⟨c0, c1, c2, c3, c4, c5⟩ := hV; go_simp⟩) hHeld ?_
  try simp only [Act.put, qB, qC, qD, qE, qF, qG]
  refine wpAnyH_take (i := 41) (v := .bool true) rfl (by kernel_rfl) (by kernel_rfl) (by kernel_rfl) (fun _ _ _ h => h) (.inl ⟨by rfl, fun V hV => by obtain ⟨c0, c1, c2, c3, c4, c5⟩ := hV; go_simp⟩) hHeld ?_
  try simp only [Act.put, qB, qC, qD, qE, qF, qG]
  refine wpAnyH_take (i := 42) (v := .bool true) rfl (by kernel_rfl) (by kernel_rfl) (by kernel_rfl) (fun _ _ _ h => h) (.inl ⟨by rfl, fun V hV => by obtain ⟨c0, c1, c2, c3, c4, c5⟩ := hV; go_simp⟩) hHeld ?_
  try simp only [Act.put, qB, qC, qD, qE, qF, qG]
  refine wpAnyH_ready (rs := [43]) (by kernel_rfl) (by simp) ?_
  refine AllReadyH.cons rfl (fun K hK => ?_) AllReadyH.nil
  go_simp
  refine (width_Names wC).mono ?_
  rintro e wD ⟨rfl, hzD, hbD⟩
  have hqD := hqC.trans (hbD.mono hqC.size)
  have hxD := (hqD.block _ hlt8).trans Hx8.out
  have hyD := (hqD.block _ hlt11).trans Hx11.out
  refine hK.out _ _ ⟨cell_blk hxD 0, cell_blk hxD 1, cell_blk hxD 2, cell_blk hyD 0, cell_blk hyD 1, cell_blk hyD 2⟩ (fun hHeld => ?_)
  clear hK K
  try simp only [Act.put, qB, qC, qD, qE, qF, qG]
  refine wpAnyH_ready (rs := [44]) (by kernel_rfl) (by simp) ?_
  refine AllReadyH.cons rfl (fun K hK => ?_) AllReadyH.nil
  go_simp
  refine (ref15_Names wD).mono ?_
  rintro e wE ⟨rfl, hzE, hbE⟩
  have hqE := hqD.trans (hbE.mono hqD.size)
  have hxE := (hqE.block _ hlt8).trans Hx8.out
  have hyE := (hqE.block _ hlt11).trans Hx11.out
  have hzD2 := (hzD.below hbE).more hbE.size
  refine hK.out _ _ ⟨cell_blk hxE 0, cell_blk hxE 1, cell_blk hxE 2, cell_blk hyE 0, cell_blk hyE 1, cell_blk hyE 2⟩ (fun hHeld => ?_)
  clear hK K
  try simp only [Act.put, qB, qC, qD, qE, qF, qG]
  refine wpAnyH_ready (rs := [45]) (by kernel_rfl) (by simp) ?_
  refine AllReadyH.cons rfl (fun K hK => ?_) AllReadyH.nil
  go_simp
  refine (ref14_Texts_same _ 7 7 _ 7 widN wE hzD2 hzE (by omega)).mono ?_
  rintro e wF ⟨rfl, hbF⟩
  have hqF := hqE.trans (hbF.mono hqE.size)
  have hxF := (hqF.block _ hlt8).trans Hx8.out
  have hyF := (hqF.block _ hlt11).trans Hx11.out
  refine hK.out _ _ ⟨cell_blk hxF 0, cell_blk hxF 1, cell_blk hxF 2, cell_blk hyF 0, cell_blk hyF 1, cell_blk hyF 2⟩ (fun hHeld => ?_)
  clear hK K
  try simp only [Act.put, qB, qC, qD, qE, qF, qG]
  refine wpAnyH_take (i := 46) (v := .bool true) rfl (by kernel_rfl) (by kernel_rfl) (by kernel_rfl) (fun _ _ _ h => h) (.inl ⟨by rfl, fun V hV => by obtain ⟨c0, c1, c2, c3, c4, c5⟩ := hV; go_simp⟩) hHeld ?_
  try simp only [Act.put, qB, qC, qD, qE, qF, qG]
  refine wpAnyH_take (i := 47) (v := .bool true) rfl (by kernel_rfl) (by kernel_rfl) (by kernel_rfl) (fun _ _ _ h => h) (.inl ⟨by rfl, fun V hV => by obtain ⟨c0, c1, c2, c3, c4, c5⟩ := hV; go_simp⟩) hHeld ?_
  try simp only [Act.put, qB, qC, qD, qE, qF, qG]
  refine wpAnyH_done (by kernel_rfl) ?_ _
  refine NoPanic.normal ?_
  go_wp2_with fail
  go_ret
  exact ⟨rfl, Hbw.out.trans (hqF.mono Hbw.out.size)⟩
end Go.Vir


/- For every text, with A wide or not, and number: the widths that a file makes are those that the document says. (The listed variables are tied to the text.) -/
namespace Go.Proofs.YtjbeaheenfcgdaaGreatDoor
open Go Go.Vir Go.RowKit Go.Proofs Go.ChangeShapes Go.WideShapes Go.ChangeAt

set_option maxHeartbeats 800000 in
set_option maxRecDepth 100000 in
theorem makes_lifted (os : Os) (started : os.Started) (H : Type) (enc : TypeId × Value → H) :
    ReturnsInHanded {} Tryz.checked os 4 .any (fun w args => (Rows.widthMakesSpec.pre enc Tryz.prog Tryz.f4 [] false w args ∧ laidMetH Tryz.prog laidW w) ∧ sizedMet enc Tryz.prog Tryz.f4 (OpenSpec.ofChange Rows.widthMakesSpec) false w args)
      (Rows.widthMakesSpec.post enc Tryz.prog Tryz.f4 false true false false) := by
  refine returns_shaped (C := Tryz.checked) (X := fun w _ => laidMetH Tryz.prog laidW w) (fun _ _ _ hh h => h.of_heap hh) own started (by kernel_rfl) Tryz.func4
    (ChangeSpec.witness_shaped (enc := enc) (C := Tryz.checked) (os := os) (X := fun w _ => laidMetH Tryz.prog laidW w) false (worldW os) #[.string ⟨#[]⟩, .bool false, .int .i64 0] 8 (worldW_os os) (worldW_shaped os) (by kernel_rfl) (by kernel_rfl) (by kernel_rfl) (worldW_met os _)) ?_
  intro W base args ds gs before hval0 hW hsh hL
  have hval : ∀ (j : Nat) t v, Tryz.f4.params[j]? = some t → args[j]? = some v → Value.okWide Tryz.prog W .any base t v := hval0
  have hW' := hW
  obtain ⟨p, q, hA0, hV, rfl, _, _⟩ := hW
  have hA : DataW.TrodAll enc Tryz.prog W 0 (fun _ => true) true Tryz.f4.params.toList args.toList ds p := hA0
  rw [Tryz.params4] at hA hval
  obtain ⟨v0, v1, v2, d0, d1, d2, p0, p1, p2, rfl, rfl, rfl, h0, h1, h2⟩ := trodAll_three hA
  obtain ⟨rfl, rfl⟩ := trodVars_none hV
  have hlt : ∀ x ∈ p0 ++ p1 ++ p2, x.block < W.heap.size := fun x hx => by simpa using hW'.lt x (by simpa using hx)
  have hargs : ∀ (W' : World), Below W.heap.size W W' → DataW.TrodAll enc Tryz.prog W' 0 (fun b => decide (b < W.heap.size)) true #[9, 4, 3].toList #[v0, v1, v2].toList [d0, d1, d2] (p0 ++ (p1 ++ p2)) := fun W' hn =>
    trodAll_mk3 (Below.trod laidOut (by kernel_rfl) (of_decide_eq_true (by kernel_rfl)) h0 hn (fun x hx => hlt x (by simp [hx]))) (Below.trod laidOut (by kernel_rfl) (of_decide_eq_true (by kernel_rfl)) h1 hn (fun x hx => hlt x (by simp [hx]))) (Below.trod laidOut (by kernel_rfl) (of_decide_eq_true (by kernel_rfl)) h2 hn (fun x hx => hlt x (by simp [hx])))
  obtain ⟨p, q, u, p2, q2, hG⟩ := gloW_of_laid hsh hL
  have key : Calls Tryz.prog 4 #[v0, v1, v2] W fun e W' => e = .returned (.bool true) ∧ Below W.heap.size W W' := by
    obtain ⟨s, rfl, hs⟩ := open_text (hval 0 9 v0 rfl rfl) h0
    obtain ⟨lo, rfl, _, _⟩ := open_bool Tryz.underlying4 (hval 1 4 v1 rfl rfl) h1
    obtain ⟨k, rfl, _, _, _⟩ := open_int Tryz.underlying3 (hval 2 3 v2 rfl rfl) h2
    exact law_wmakes s lo k p q u p2 q2 W hG hs
  refine key.mono fun e W' ⟨he, hn⟩ => ?_
  subst he
  exact ⟨_, rfl, _, _, _, [], _, [], hW', trodAll_mk1 (shut_bool Tryz.underlying4 true), hargs _ hn, rfl, hn.frame _, fun h => by cases h⟩

set_option maxRecDepth 100000 in
set_option maxHeartbeats 4000000 in
theorem makes_closed : joinedFacts Tryz.prog 4 Tryz.f4 Rows.widthMakesSpec Rows.widthMakesRow = true := by
  unfold joinedFacts
  repeat' (with_reducible apply and_mk)
  all_goals as_aux_lemma => kernel_rfl
set_option maxHeartbeats 4000000 in
theorem makes_holds : Rows.WidthMakesSaid :=
  OpenClaim.holds_of_wide 4 Tryz.f4 rfl rfl rfl rfl rfl rfl rfl ⟨rfl, rfl, rfl, rfl, rfl⟩ rfl rfl rfl rfl rfl (by kernel_rfl) Tryz.func4 makes_closed
    (of_decide_eq_true (by kernel_rfl)) (by unfold Func.isWrapper; first | (rw [if_pos (by decide +kernel)]; kernel_rfl) | (rw [if_neg (by decide +kernel)]; exact ⟨rfl, rfl⟩))
    (fun os started H enc _ => makes_lifted os started H enc)

theorem makes_card : Rows.WidthMakesCardSaid :=
  Claim7.holds_tied_plain_at .later [] [.data, .handle, .sentinel, .sentinel, .sentinel, .sentinel, .sentinel, .sentinel, .sentinel, .sentinel, .pinned] true (true, "fff8911dbad99978d22468c38c03ea7cf60215aaed4f667c212fe979b0fddc08") true
    makes_holds (fun _ h => by cases h) (by kernel_rfl) (fun _ h => by cases h) widthMakes_row_tie rfl ⟨rfl, rfl⟩ (by kernel_rfl) rfl
    (fun f fn hf hfn => by
      obtain rfl : f = 4 := Option.some.inj ((show Tryz.prog.funcNamed "virama/viramalaw15.WidthMakes" = some 4 by kernel_rfl).symm.trans hf) |>.symm
      obtain rfl : fn = Tryz.f4 := (Option.some.inj (Tryz.func4.symm.trans hfn)).symm
      exact ⟨by kernel_rfl, fun j t ht => by
        rw [Tryz.params4] at ht
        have hm : t ∈ [9, 4, 3] := by simpa using Array.mem_of_getElem? ht
        have hall : ([9, 4, 3].all fun u => !Tryz.prog.wantsStandIn u) = true := by kernel_rfl
        exact (show Tryz.prog.wantsStandIn t = false by simpa using List.all_eq_true.1 hall t hm)⟩)
    (by kernel_rfl)
#print axioms makes_card
end Go.Proofs.YtjbeaheenfcgdaaGreatDoor

