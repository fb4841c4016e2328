/- For every widths, number and text: with Wide a scalar, a cluster is no less wide, and at most 2. (The listed variables are tied to the text.) -/
import Derived.Test.YtjbeaheenfcgdaaGreatDoorBm
import Derived.Test.YtjbeaheenfcgdaaGreatDoorBn
import Derived.Test.YtjbeaheenfcgdaaGreatDoorTie
import Derived.Test.YtjbeaheenfcgdaaGreatDoorCards
/- viramalaw15: WidthWide. -/
namespace Go.Vir
open Go Go.RowKit Go.Proofs Go.Shelf
attribute [local go_sem] Oper.semAt_some

set_option maxRecDepth 100000 in
set_option maxHeartbeats 8000000 in
theorem law_wwide (Ai : Option Addr) (ni ci : Nat) (Ab : Option Addr) (nb cb : Nat) (wd : Bool) (T0 : TrV) (r : Int) (s0 : List UInt8) (p q u p2 q2 : Addr) (w : World) (hG : GloW w p q u p2 q2) (hT : Tri w w.heap.size Ai ni Ab nb T0) (hic : ni ≤ ci) (hni : ni ≤ 9223372036854775807) (hnb : nb ≤ 9223372036854775807)
    (hbs : ∀ b ∈ T0.bl, b.length ≤ 9223372036854775807) (hs : s0.length ≤ 9223372036854775807) :
    Calls Tryz.prog 6 #[.agg #[.slice Ai ni ci, .slice Ab nb cb, .bool wd], .int .i64 r, .string ⟨s0.toArray⟩] w fun e w' => e = .returned (.bool true) ∧ Below w.heap.size w w' := by
  obtain ⟨W0, hW0⟩ : ∃ W0, W0 = w.alloc (.cells #[.slice Ai ni ci, .slice Ab nb cb, .bool wd] 42) := ⟨_, rfl⟩
  have hbw0 : Below w.heap.size w W0 := by rw [hW0]; go_grown
  have hx0 : W0.heap[w.heap.size]? = some (.cells #[.slice Ai ni ci, .slice Ab nb cb, .bool wd] 42 (0, 0)) := by rw [hW0]; exact heap_new rfl
  have hlt := (Array.getElem?_eq_some_iff.1 hx0).1
  have H0 := Lib.hid (law15_shown p q u p2 q2 W0 (hG.below hbw0))
  have HG := Lib.hid hG
  have HT := Lib.hid hT
  have Hbs := Lib.hid hbs
  have Hbw0 := Lib.hid hbw0
  have Hx0 := Lib.hid hx0
  clear hG hT hbs hbw0 hx0
  go_enter Tryz.func6, Tryz.ntmps6
  go_upto_region 1 with fail
  rw [← hW0]
  clear hW0
  go_wp2_with fail
  refine H0.out.mono ?_
  rintro e w1 ⟨rfl, hb1⟩
  have hbw1 := Hbw0.out.trans (hb1.mono Hbw0.out.size)
  have hs1 := hbw1.size
  have hx1 := (hb1.block _ hlt).trans Hx0.out
  have hlt1 := (Array.getElem?_eq_some_iff.1 hx1).1
  have e0 := cell_blk hx1 0
  have e1 := cell_blk hx1 1
  have e2 := cell_blk hx1 2
  have Htab := Lib.hid (law15_Table w.heap.size Ai ni ci Ab nb cb wd T0 w1 (HT.out.below hbw1) hbw1.size hic hnb hni Hbs.out)
  have Hbw1 := Lib.hid hbw1
  have Hx1 := Lib.hid hx1
  clear hbw1 hx1 hb1 H0 Hbw0 Hx0 HT Hbs
  go_wp2_with fail
  refine Htab.out.mono ?_
  rintro e w2 ⟨⟨n2, A2, m2, c2, rfl, hi2, hm2, hn2, hq2, hT2⟩, hb2⟩
  have hbw2 := Hbw1.out.trans (hb2.mono Hbw1.out.size)
  have hx2 := (hb2.block _ hlt1).trans Hx1.out
  have hcb := (cutT_len T0).2.2
  generalize cutT T0 = T at *
  have hcb : ∀ b ∈ T.bl, b.length ≤ 1000000 := fun b hb => by have := hcb b hb; omega
  have Hcb := Lib.hid hcb
  obtain ⟨g1, g2, g3, g4⟩ := widths_stored (.slice Ai n2 ci) (.slice A2 m2 c2) (.bool wd) hx2 hbw2 (Nat.le_refl _)
  have hT3 := (hT2.keep (by rw [g4]; exact Nat.le_refl _) (fun k hk => g3 k (by omega)) (fun k hk _ => g3 k (by omega))).tri (by rw [g4]; exact hbw2.size)
  obtain ⟨w3, hW3⟩ : ∃ w3, w3 = (((w2.setCell ⟨w.heap.size, 0, none⟩ (.slice Ai n2 ci)).setCell ⟨w.heap.size, 1, none⟩ (.slice A2 m2 c2)).setCell ⟨w.heap.size, 2, none⟩ (.bool wd)) := ⟨_, rfl⟩
  rw [← hW3] at g1 g2 hT3
  have hlt := (Array.getElem?_eq_some_iff.1 g1).1
  have hn2 : n2 ≤ 1000000 := by omega
  have hm2 : m2 ≤ 1000000 := by omega
  obtain ⟨e0, e1, e2⟩ := cells3 hx2
  have s0 := frozen_blk hx2 0
  have s1 := frozen_blk hx2 1
  have s2 := frozen_blk hx2 2
  have Hx := Lib.hid g1
  have HT := Lib.hid hT3
  have Hbw := Lib.hid g2
  have hq3 : Below w3.heap.size w3 w3 := Below.refl _ _
  clear g1 g2 g3 g4 hT3 hT2 hcb hx2 hbw2 hb2 hs1 hlt1 Htab Hbw1 Hx1 hi2 hq2
  go_upto_region 3 with fail
  rw [← hW3]
  clear hW3 e0 e1 e2 s0 s1 s2
  have e0 := cell_blk Hx.out 0
  have e1 := cell_blk Hx.out 1
  have e2 := cell_blk Hx.out 2
  have hm : (min (s0.length : Int) 100).toNat = min s0.length 100 := by omega
  go_upto_region 4 with fail
  rw [text_cut, take_min]
  have hsl : (s0.take 100).length ≤ 100 := by rw [List.length_take]; omega
  generalize s0.take 100 = s at *
  clear hm
  have ho := wide_of T r
  have hc := wide_clu T s
  have hr1 : ((ofW T false r).2 == (ofW T true r).2) = true := by rw [ho.1]; simp
  have hr2 : ((cluW T false s).2 == (cluW T true s).2) = true := by rw [hc.1]; simp
  have hr3 : decide ((ofW T false r).1 ≤ (ofW T true r).1) = true := decide_eq_true ho.2.1
  have hr4 : decide ((ofW T true r).1 ≤ 2) = true := decide_eq_true ho.2.2.1
  have hr5 : decide ((cluW T false s).1 ≤ (cluW T true s).1) = true := decide_eq_true hc.2.1
  have hr6 : decide ((cluW T true s).1 ≤ 2) = true := decide_eq_true hc.2.2.1
  have hr7 : decide ((ofW T false r).1 ≥ 0) = true := decide_eq_true ho.2.2.2
  have hr8 : decide ((cluW T false s).1 ≥ 0) = true := decide_eq_true hc.2.2.2
  have H3 := Lib.hid (And.intro hr1 (And.intro hr2 (And.intro hr3 (And.intro hr4 (And.intro hr5 (And.intro hr6 (And.intro hr7 hr8)))))))
  clear ho hc hr1 hr2 hr3 hr4 hr5 hr6 hr7 hr8
  have H := Lib.hid (width_Of Ai n2 ci A2 m2 c2 false T r p q u p2 q2 w3 ((HT.out.below hq3).more hq3.size) hn2 hm2 Hcb.out ((HG.out.wid.below Hbw.out).below hq3) ((HG.out.sca.below Hbw.out).below hq3))
  go_wp2_with fail
  refine H.out.mono ?_
  clear H e0 e1 e2
  rintro e w4 ⟨rfl, hb⟩
  have hq4 := hq3.trans (hb.mono hq3.size)
  clear hb hq3
  have hx4 := (hq4.block _ hlt).trans Hx.out
  have e0 := cell_blk hx4 0
  have e1 := cell_blk hx4 1
  have e2 := cell_blk hx4 2
  clear hx4
  have H := Lib.hid (width_Of Ai n2 ci A2 m2 c2 true T r p q u p2 q2 w4 ((HT.out.below hq4).more hq4.size) hn2 hm2 Hcb.out ((HG.out.wid.below Hbw.out).below hq4) ((HG.out.sca.below Hbw.out).below hq4))
  go_wp2_with fail
  refine H.out.mono ?_
  clear H e0 e1 e2
  rintro e w5 ⟨rfl, hb⟩
  have hq5 := hq4.trans (hb.mono hq4.size)
  clear hb hq4
  have hx5 := (hq5.block _ hlt).trans Hx.out
  have e0 := cell_blk hx5 0
  have e1 := cell_blk hx5 1
  have e2 := cell_blk hx5 2
  clear hx5
  have H := Lib.hid (width_Cluster Ai n2 ci A2 m2 c2 false T s p q u p2 q2 w5 ((HT.out.below hq5).more hq5.size) hn2 hm2 Hcb.out (by omega) ((HG.out.wid.below Hbw.out).below hq5) ((HG.out.sca.below Hbw.out).below hq5))
  go_wp2_with fail
  refine H.out.mono ?_
  clear H e0 e1 e2
  rintro e w6 ⟨rfl, hb⟩
  have hq6 := hq5.trans (hb.mono hq5.size)
  clear hb hq5
  have hx6 := (hq6.block _ hlt).trans Hx.out
  have e0 := cell_blk hx6 0
  have e1 := cell_blk hx6 1
  have e2 := cell_blk hx6 2
  clear hx6
  have H := Lib.hid (width_Cluster Ai n2 ci A2 m2 c2 true T s p q u p2 q2 w6 ((HT.out.below hq6).more hq6.size) hn2 hm2 Hcb.out (by omega) ((HG.out.wid.below Hbw.out).below hq6) ((HG.out.sca.below Hbw.out).below hq6))
  go_wp2_with fail
  refine H.out.mono ?_
  clear H e0 e1 e2
  rintro e w7 ⟨rfl, hb⟩
  have hq7 := hq6.trans (hb.mono hq6.size)
  clear hb hq6
  have hx7 := (hq7.block _ hlt).trans Hx.out
  have e0 := cell_blk hx7 0
  have e1 := cell_blk hx7 1
  have e2 := cell_blk hx7 2
  clear hx7
  obtain ⟨hr1, hr2, hr3, hr4, hr5, hr6, hr7, hr8⟩ := H3.out
  generalize (ofW T false r).1 = a1 at *
  generalize (ofW T false r).2 = a2 at *
  generalize (ofW T true r).1 = b1 at *
  generalize (ofW T true r).2 = b2 at *
  generalize (cluW T false s).1 = d1 at *
  generalize (cluW T false s).2 = d2 at *
  generalize (cluW T true s).1 = g1 at *
  generalize (cluW T true s).2 = g2 at *
  clear H3 e0 e1 e2
  go_wp2_with fail
  go_ret
  exact ⟨rfl, Hbw.out.trans (hq7.mono Hbw.out.size)⟩
end Go.Vir


/- For every widths, number and text: with Wide a scalar, a cluster is no less wide, and at most 2. (The listed variables are tied to the text.) -/
namespace Go.Proofs.YtjbeaheenfcgdaaGreatDoor
open Go Go.Vir Go.RowKit Go.Proofs Go.ChangeShapes Go.WideShapes Go.ChangeAt

set_option maxHeartbeats 800000 in
set_option maxRecDepth 100000 in
theorem wide_lifted (os : Os) (started : os.Started) (H : Type) (enc : TypeId × Value → H) :
    ReturnsInHanded {} Tryz.checked os 6 .any (fun w args => (Rows.widthWideSpec.pre enc Tryz.prog Tryz.f6 [] false w args ∧ laidMetH Tryz.prog laidW w) ∧ sizedMet enc Tryz.prog Tryz.f6 (OpenSpec.ofChange Rows.widthWideSpec) false w args)
      (Rows.widthWideSpec.post enc Tryz.prog Tryz.f6 false true false false) := by
  refine returns_shaped (C := Tryz.checked) (X := fun w _ => laidMetH Tryz.prog laidW w) (fun _ _ _ hh h => h.of_heap hh) own started (by kernel_rfl) Tryz.func6
    (ChangeSpec.witness_shaped (enc := enc) (C := Tryz.checked) (os := os) (X := fun w _ => laidMetH Tryz.prog laidW w) false (worldW os) #[.agg #[.slice none 0 0, .slice none 0 0, .bool false], .int .i64 0, .string ⟨#[]⟩] 8 (worldW_os os) (worldW_shaped os) (by kernel_rfl) (by kernel_rfl) (by kernel_rfl) (worldW_met os _)) ?_
  intro W base args ds gs before hval0 hW hsh hL
  have hval : ∀ (j : Nat) t v, Tryz.f6.params[j]? = some t → args[j]? = some v → Value.okWide Tryz.prog W .any base t v := hval0
  have hW' := hW
  obtain ⟨p, q, hA0, hV, rfl, _, _⟩ := hW
  have hA : DataW.TrodAll enc Tryz.prog W 0 (fun _ => true) true Tryz.f6.params.toList args.toList ds p := hA0
  rw [Tryz.params6] at hA hval
  obtain ⟨v0, v1, v2, d0, d1, d2, p0, p1, p2, rfl, rfl, rfl, h0, h1, h2⟩ := trodAll_three hA
  obtain ⟨rfl, rfl⟩ := trodVars_none hV
  have hlt : ∀ x ∈ p0 ++ p1 ++ p2, x.block < W.heap.size := fun x hx => by simpa using hW'.lt x (by simpa using hx)
  have hargs : ∀ (W' : World), Below W.heap.size W W' → DataW.TrodAll enc Tryz.prog W' 0 (fun b => decide (b < W.heap.size)) true #[42, 3, 9].toList #[v0, v1, v2].toList [d0, d1, d2] (p0 ++ (p1 ++ p2)) := fun W' hn =>
    trodAll_mk3 (Below.trod laidOut (by kernel_rfl) (of_decide_eq_true (by kernel_rfl)) h0 hn (fun x hx => hlt x (by simp [hx]))) (Below.trod laidOut (by kernel_rfl) (of_decide_eq_true (by kernel_rfl)) h1 hn (fun x hx => hlt x (by simp [hx]))) (Below.trod laidOut (by kernel_rfl) (of_decide_eq_true (by kernel_rfl)) h2 hn (fun x hx => hlt x (by simp [hx])))
  obtain ⟨p, q, u, p2, q2, hG⟩ := gloW_of_laid hsh hL
  have key : Calls Tryz.prog 6 #[v0, v1, v2] W fun e W' => e = .returned (.bool true) ∧ Below W.heap.size W W' := by
    obtain ⟨Ai, ni, ci, Ab, nb, cb, wd, T, rfl, hic, hni, hnb, hbs, hT⟩ := open_widths (hval 0 42 v0 rfl rfl) h0
    obtain ⟨k, rfl, _, _, _⟩ := open_int Tryz.underlying3 (hval 1 3 v1 rfl rfl) h1
    obtain ⟨s, rfl, hs⟩ := open_text (hval 2 9 v2 rfl rfl) h2
    exact law_wwide Ai ni ci Ab nb cb wd T k s p q u p2 q2 W hG hT hic hni hnb hbs hs
  refine key.mono fun e W' ⟨he, hn⟩ => ?_
  subst he
  exact ⟨_, rfl, _, _, _, [], _, [], hW', trodAll_mk1 (shut_bool Tryz.underlying4 true), hargs _ hn, rfl, hn.frame _, fun h => by cases h⟩

set_option maxRecDepth 100000 in
set_option maxHeartbeats 4000000 in
theorem wide_closed : joinedFacts Tryz.prog 6 Tryz.f6 Rows.widthWideSpec Rows.widthWideRow = true := by
  unfold joinedFacts
  repeat' (with_reducible apply and_mk)
  all_goals as_aux_lemma => kernel_rfl
set_option maxHeartbeats 4000000 in
theorem wide_holds : Rows.WidthWideSaid :=
  OpenClaim.holds_of_wide 6 Tryz.f6 rfl rfl rfl rfl rfl rfl rfl ⟨rfl, rfl, rfl, rfl, rfl⟩ rfl rfl rfl rfl rfl (by kernel_rfl) Tryz.func6 wide_closed
    (of_decide_eq_true (by kernel_rfl)) (by unfold Func.isWrapper; first | (rw [if_pos (by decide +kernel)]; kernel_rfl) | (rw [if_neg (by decide +kernel)]; exact ⟨rfl, rfl⟩))
    (fun os started H enc _ => wide_lifted os started H enc)

theorem wide_card : Rows.WidthWideCardSaid :=
  Claim7.holds_tied_plain_at .later [] [.data, .handle, .sentinel, .sentinel, .sentinel, .sentinel, .sentinel, .sentinel, .sentinel, .sentinel, .pinned] true (true, "fff8911dbad99978d22468c38c03ea7cf60215aaed4f667c212fe979b0fddc08") true
    wide_holds (fun _ h => by cases h) (by kernel_rfl) (fun _ h => by cases h) widthWide_row_tie rfl ⟨rfl, rfl⟩ (by kernel_rfl) rfl
    (fun f fn hf hfn => by
      obtain rfl : f = 6 := Option.some.inj ((show Tryz.prog.funcNamed "virama/viramalaw15.WidthWide" = some 6 by kernel_rfl).symm.trans hf) |>.symm
      obtain rfl : fn = Tryz.f6 := (Option.some.inj (Tryz.func6.symm.trans hfn)).symm
      exact ⟨by kernel_rfl, fun j t ht => by
        rw [Tryz.params6] at ht
        have hm : t ∈ [42, 3, 9] := by simpa using Array.mem_of_getElem? ht
        have hall : ([42, 3, 9].all fun u => !Tryz.prog.wantsStandIn u) = true := by kernel_rfl
        exact (show Tryz.prog.wantsStandIn t = false by simpa using List.all_eq_true.1 hall t hm)⟩)
    (by kernel_rfl)
#print axioms wide_card
end Go.Proofs.YtjbeaheenfcgdaaGreatDoor

