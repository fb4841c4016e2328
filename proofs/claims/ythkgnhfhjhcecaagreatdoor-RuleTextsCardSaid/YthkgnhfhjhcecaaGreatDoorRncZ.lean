/- The row of RuleTexts and its tied card: for every input (under the row's conditions on the listed variables) the law returns true and its arguments read as before. -/
import Derived.Test.YthkgnhfhjhcecaaGreatDoorBj
import Derived.Test.YthkgnhfhjhcecaaGreatDoorBm
import Derived.Test.YthkgnhfhjhcecaaGreatDoorBp
import Derived.Test.YthkgnhfhjhcecaaGreatDoorTie
import Derived.Test.YthkgnhfhjhcecaaGreatDoorCards
/- viramalaw11: RuleTexts. -/
namespace Go.Vir
open Go Go.RowKit Go.Proofs Go.Shelf
attribute [local go_sem] Oper.semAt_some

theorem rpar_len (s : List UInt8) (ss : List (List UInt8)) : (rparB s ss).1.length ≤ 40 := by
  by_cases h : (rparB s ss).2.2 = 0
  · have h1 := rules_right (rpar_names h) h
    simp only [rulesB, Bool.and_eq_true, decide_eq_true_eq] at h1
    exact h1.2.2.1
  · rw [rpar_none h]; simp

set_option maxRecDepth 100000 in
set_option maxHeartbeats 8000000 in
theorem law_rtexts (A A0 B : Option Addr) (m0 c0 m00 c00 n0 c1 : Nat) (rs0 rs1 : List RuleV) (s0 : List UInt8) (ss0 : List (List UInt8)) (w : World) (hG : Globs w) (hx : RlsI w w.heap.size A m0 rs0) (hx0 : RlsI w w.heap.size A0 m00 rs1) (hz : Strs w w.heap.size B n0 ss0) (hn0 : n0 ≤ 9223372036854775807) (hs0 : s0.length ≤ 9223372036854775807) :
    Calls Tryz.prog 10 #[.slice A m0 c0, .slice A0 m00 c00, .string ⟨s0.toArray⟩, .slice B n0 c1] w fun e w' => e = .returned (.bool true) ∧ Below w.heap.size w w' := by
  go_enter Tryz.func10, Tryz.ntmps10
  go_wp2_with fail
  refine (law11_shown _ hG).mono ?_
  rintro e w1 ⟨rfl, hb1⟩
  have hx1 := (hx.below hb1).more hb1.size
  go_wp2_with fail
  refine (law11_Few A m0 c0 rs0 w1 hx1).mono ?_
  rintro e w2 ⟨⟨A2, m, c, rfl, hm, hmc, hR, hm42⟩, hb2⟩
  have Hm := Lib.hid hm
  have hb3 := hb1.trans (hb2.mono hb1.size)
  have hx2 := (hx0.below hb3).more hb3.size
  clear hm hx hx1 hx0 hb1 hb2
  go_wp2_with fail
  refine (law11_Few A0 m00 c00 rs1 w2 hx2).mono ?_
  rintro e w3 ⟨⟨A3, m3, c3, rfl, hm3, hmc3, hQ, hm43⟩, hb4⟩
  have Hm3 := Lib.hid hm3
  have hb5 := hb3.trans (hb4.mono hb3.size)
  have hR3 := (hR.below hb4).more hb4.size
  have hz3 := (hz.below hb5).more hb5.size
  clear hm3 hx2 hz hR hb3 hb4
  go_wp2_with fail
  refine (law_Few5 B n0 c1 ss0 w3 hz3 hn0).mono ?_
  rintro e w4 ⟨⟨B', n', c', rfl, hn', hS⟩, hb6⟩
  have hb7 := hb5.trans (hb6.mono hb5.size)
  have hR4 := (hR3.below hb6).more hb6.size
  have hQ4 := (hQ.below hb6).more hb6.size
  obtain ⟨hf1, hf2⟩ := few_len ss0
  have hsn := hS.len
  have hn34 : n' ≤ 34 := by omega
  generalize fewR rs0 = rs at *
  generalize fewR rs1 = qs at *
  generalize fewL ss0 = ss at *
  have hs1000 : ∀ x ∈ ss, x.length ≤ 1000 := fun x hx => by have := hf2 x hx; omega
  have hp1 := rule_Print A2 B' m c n' c' rs ss w4 (hG.below hb7) hR4 (by omega) (by omega) hS hf2
  have hp2 := fun W (hW : Below w4.heap.size w4 W) => ref_Print11 A2 B' m c n' c' rs ss W ((hR4.below hW).more hW.size) (by omega) (by omega) hn' ((hS.below hW).more hW.size) hf2
  have hq1 := fun W (hW : Below w4.heap.size w4 W) => rule_Parse (s0.take 600) B' n' c' ss W (hG.below (hb7.trans (hW.mono hb7.size))) (by omega) ((hS.below hW).more hW.size) hs1000 (by simp; omega)
  have hq2 := fun W (hW : Below w4.heap.size w4 W) => ref_Parse11 (s0.take 600) B' n' c' ss W (by omega) hn' ((hS.below hW).more hW.size) hs1000 (by simp; omega)
  have hpl := rpar_len (s0.take 600) ss
  generalize rpB rs ss = pr at hp1 hp2
  generalize rparB (s0.take 600) ss = rp at hq1 hq2 hpl
  obtain ⟨t, pe⟩ := pr
  obtain ⟨ms, k2, g⟩ := rp
  simp only at hp1 hp2 hpl
  have Hp1 := Lib.hid hp1
  have Hp2 := Lib.hid hp2
  have Hq1 := Lib.hid hq1
  have Hq2 := Lib.hid hq2
  have hcut := fun W => law11_cut s0 W hs0
  have Hcut := Lib.hid hcut
  clear hp1 hp2 hq1 hq2 hcut hsn hf1 hf2 hs1000 hb5 hb6 hz3 hQ hR3 hn'
  go_wp2_with fail
  refine Hp1.out.mono ?_
  rintro e w5 ⟨rfl, hb8⟩
  go_wp2_with fail
  refine (Hp2.out _ hb8).mono ?_
  rintro e w6 ⟨rfl, hb9⟩
  have hb10 := hb8.trans (hb9.mono hb8.size)
  clear hb8 hb9
  go_wp2_with fail
  refine (Hcut.out _).mono ?_
  rintro e w7 ⟨rfl, rfl⟩
  go_wp2_with fail
  refine (Hq1.out _ hb10).mono ?_
  rintro e w8 ⟨⟨A5, n5, c5, rfl, hc5, hR5⟩, hb11⟩
  simp only at hR5
  have hb12 := hb10.trans (hb11.mono hb10.size)
  have hn5 : n5 ≤ 40 := by have := hR5.len; omega
  clear hb10 hb11
  go_wp2_with fail
  refine (Hcut.out _).mono ?_
  rintro e w9 ⟨rfl, rfl⟩
  go_wp2_with fail
  refine (Hq2.out _ hb12).mono ?_
  rintro e w10 ⟨⟨A6, n6, c6, rfl, hc6, hR6⟩, hb13⟩
  simp only at hR6
  have hb14 := hb12.trans (hb13.mono hb12.size)
  have hR7 := (hR5.below hb13).more hb13.size
  have hsm1 := ref_Same11 A5 A6 n5 c5 n6 c6 ms ms w10 hR7 hR6 (by omega)
  rw [decide_eq_true (show ms = ms from rfl)] at hsm1
  have hsm2 := fun W (hW : Below w10.heap.size w10 W) => rule_Same A2 A3 m c m3 c3 rs qs W ((hR4.below (hb14.trans (hW.mono hb14.size))).more (hb14.trans (hW.mono hb14.size)).size) ((hQ4.below (hb14.trans (hW.mono hb14.size))).more (hb14.trans (hW.mono hb14.size)).size) (by omega)
  have hsm3 := fun W (hW : Below w10.heap.size w10 W) => ref_Same11 A2 A3 m c m3 c3 rs qs W ((hR4.below (hb14.trans (hW.mono hb14.size))).more (hb14.trans (hW.mono hb14.size)).size) ((hQ4.below (hb14.trans (hW.mono hb14.size))).more (hb14.trans (hW.mono hb14.size)).size) (by omega)
  have hsm4 := fun W (hW : Below w10.heap.size w10 W) => rule_Same A2 A2 m c m c rs rs W ((hR4.below (hb14.trans (hW.mono hb14.size))).more (hb14.trans (hW.mono hb14.size)).size) ((hR4.below (hb14.trans (hW.mono hb14.size))).more (hb14.trans (hW.mono hb14.size)).size) (by omega)
  rw [decide_eq_true (show rs = rs from rfl)] at hsm4
  generalize decide (rs = qs) = V at hsm2 hsm3
  have Hsm1 := Lib.hid hsm1
  have Hsm2 := Lib.hid hsm2
  have Hsm3 := Lib.hid hsm3
  have Hsm4 := Lib.hid hsm4
  have hb15 := hb7.trans (hb14.mono hb7.size)
  have hV : (V == V) = true := by simp
  clear hsm1 hsm2 hsm3 hsm4 hR5 hR6 hR7 hb12 hb13 hR4 hQ4 hS Hp1 Hp2 Hq1 Hq2
  go_wp2_with fail
  refine Hsm1.out.mono ?_
  rintro e w11 ⟨rfl, hb16⟩
  go_wp2_with fail
  refine (Hsm2.out _ hb16).mono ?_
  rintro e w12 ⟨rfl, hb17⟩
  have hb18 := hb16.trans (hb17.mono hb16.size)
  clear hb16 hb17
  go_wp2_with fail
  refine (Hsm3.out _ hb18).mono ?_
  rintro e w13 ⟨rfl, hb19⟩
  have hb20 := hb18.trans (hb19.mono hb18.size)
  clear hb18 hb19
  go_wp2_with fail
  refine (Hsm4.out _ hb20).mono ?_
  rintro e w14 ⟨rfl, hb21⟩
  have hb22 := hb15.trans ((hb20.trans (hb21.mono hb20.size)).mono hb15.size)
  go_wp2_with fail
  go_ret
  exact ⟨rfl, hb22⟩
end Go.Vir

/- The row of RuleTexts: its contract. -/
namespace Go.Proofs.YthkgnhfhjhcecaaGreatDoor
open Go Go.Vir Go.RowKit Go.Proofs Go.ChangeShapes Go.WideShapes Go.ChangeAt

set_option maxHeartbeats 800000 in
set_option maxRecDepth 100000 in
theorem rtexts_lifted (os : Os) (started : os.Started) (H : Type) (enc : TypeId × Value → H) :
    ReturnsInHanded {} Tryz.checked os 10 .any (fun w args => (Rows.ruleTextsSpec.pre enc Tryz.prog Tryz.f10 [] false w args ∧ laidMetH Tryz.prog laid5 w) ∧ sizedMet enc Tryz.prog Tryz.f10 (OpenSpec.ofChange Rows.ruleTextsSpec) false w args)
      (Rows.ruleTextsSpec.post enc Tryz.prog Tryz.f10 false true false false) := by
  refine returns_shaped (C := Tryz.checked) (X := fun w _ => laidMetH Tryz.prog laid5 w) (fun _ _ _ hh h => h.of_heap hh) own started (by kernel_rfl) Tryz.func10
    (ChangeSpec.witness_shaped (enc := enc) (C := Tryz.checked) (os := os) (X := fun w _ => laidMetH Tryz.prog laid5 w) false (world5 os) #[.slice none 0 0, .slice none 0 0, .string ⟨#[]⟩, .slice none 0 0] 8 (world5_os os) (world5_shaped os) (by kernel_rfl) (by kernel_rfl) (by kernel_rfl) (world5_met os _)) ?_
  intro W base args ds gs before hval0 hW hsh hL
  have hval : ∀ (j : Nat) t v, Tryz.f10.params[j]? = some t → args[j]? = some v → Value.okWide Tryz.prog W .any base t v := hval0
  have hW' := hW
  obtain ⟨p, q, hA0, hV, rfl, _, _⟩ := hW
  have hA : DataW.TrodAll enc Tryz.prog W 0 (fun _ => true) true Tryz.f10.params.toList args.toList ds p := hA0
  rw [Tryz.params10] at hA hval
  obtain ⟨v0, v1, v2, v3, d0, d1, d2, d3, p0, p1, p2, p3, rfl, rfl, rfl, h0, h1, h2, h3⟩ := trodAll_four hA
  obtain ⟨rfl, rfl⟩ := trodVars_none hV
  have hlt : ∀ x ∈ p0 ++ p1 ++ p2 ++ p3, x.block < W.heap.size := fun x hx => by simpa using hW'.lt x (by simpa using hx)
  have hargs : ∀ (W' : World), Below W.heap.size W W' → DataW.TrodAll enc Tryz.prog W' 0 (fun b => decide (b < W.heap.size)) true #[52, 52, 9, 23].toList #[v0, v1, v2, v3].toList [d0, d1, d2, d3] (p0 ++ (p1 ++ (p2 ++ p3))) := fun W' hn =>
    trodAll_mk4 (Below.trod laidOut (by kernel_rfl) (of_decide_eq_true (by kernel_rfl)) h0 hn (fun x hx => hlt x (by simp [hx]))) (Below.trod laidOut (by kernel_rfl) (of_decide_eq_true (by kernel_rfl)) h1 hn (fun x hx => hlt x (by simp [hx]))) (Below.trod laidOut (by kernel_rfl) (of_decide_eq_true (by kernel_rfl)) h2 hn (fun x hx => hlt x (by simp [hx]))) (Below.trod laidOut (by kernel_rfl) (of_decide_eq_true (by kernel_rfl)) h3 hn (fun x hx => hlt x (by simp [hx])))
  have hG := globs_of_laid hsh hL
  have key : Calls Tryz.prog 10 #[v0, v1, v2, v3] W fun e W' => e = .returned (.bool true) ∧ Below W.heap.size W W' := by
    obtain ⟨A, m, c, rs, rfl, hc, hm, hx⟩ := open_rules (hval 0 52 v0 rfl rfl) h0
    obtain ⟨A2, m2, c2, rs2, rfl, hc2, hm2, hx2⟩ := open_rules (hval 1 52 v1 rfl rfl) h1
    obtain ⟨s, rfl, hs⟩ := open_text (hval 2 9 v2 rfl rfl) h2
    obtain ⟨B, n, c3, ss, rfl, hn, hz⟩ := open_texts (hval 3 23 v3 rfl rfl) h3
    exact law_rtexts A A2 B m c m2 c2 n c3 rs rs2 s ss W hG hx hx2 hz hn hs
  refine key.mono fun e W' ⟨he, hn⟩ => ?_
  subst he
  exact ⟨_, rfl, _, _, _, [], _, [], hW', trodAll_mk1 (shut_bool Tryz.underlying4 true), hargs _ hn, rfl, hn.frame _, fun h => by cases h⟩
end Go.Proofs.YthkgnhfhjhcecaaGreatDoor

/- The row of RuleTexts and its tied card: for every input (under the row's conditions on the listed variables) the law returns true and its arguments read as before. -/
namespace Go.Proofs.YthkgnhfhjhcecaaGreatDoor
open Go Go.Vir Go.RowKit Go.Proofs Go.ChangeShapes Go.WideShapes Go.ChangeAt

theorem and_mk {a b : Bool} (h1 : a = true) (h2 : b = true) : (a && b) = true := by rw [h1, h2]; rfl
set_option maxRecDepth 100000 in
set_option maxHeartbeats 4000000 in
theorem rtexts_closed : joinedFacts Tryz.prog 10 Tryz.f10 Rows.ruleTextsSpec Rows.ruleTextsRow = true := by
  unfold joinedFacts
  repeat' (with_reducible apply and_mk)
  all_goals as_aux_lemma => kernel_rfl
set_option maxHeartbeats 4000000 in
theorem rtexts_holds : Rows.RuleTextsSaid :=
  OpenClaim.holds_of_wide 10 Tryz.f10 rfl rfl rfl rfl rfl rfl rfl ⟨rfl, rfl, rfl, rfl, rfl⟩ rfl rfl rfl rfl rfl (by kernel_rfl) Tryz.func10 rtexts_closed
    (of_decide_eq_true (by kernel_rfl)) (by unfold Func.isWrapper; first | (rw [if_pos (by decide +kernel)]; kernel_rfl) | (rw [if_neg (by decide +kernel)]; exact ⟨rfl, rfl⟩))
    (fun os started H enc _ => rtexts_lifted os started H enc)

theorem rtexts_card : Rows.RuleTextsCardSaid :=
  Claim7.holds_tied_plain_at .later [] [.data, .handle, .sentinel, .sentinel, .pinned] true (true, "865959b3fe18a45a1bbebca99319c8464cce926cb20537473c21ca25a58d7eec") true
    rtexts_holds (fun _ h => by cases h) (by kernel_rfl) (fun _ h => by cases h) ruleTexts_row_tie rfl ⟨rfl, rfl⟩ (by kernel_rfl) rfl
    (fun f fn hf hfn => by
      obtain rfl : f = 10 := Option.some.inj ((show Tryz.prog.funcNamed "virama/viramalaw11.RuleTexts" = some 10 by kernel_rfl).symm.trans hf) |>.symm
      obtain rfl : fn = Tryz.f10 := (Option.some.inj (Tryz.func10.symm.trans hfn)).symm
      exact ⟨by kernel_rfl, fun j t ht => by
        rw [Tryz.params10] at ht
        have hm : t ∈ [52, 52, 9, 23] := by simpa using Array.mem_of_getElem? ht
        have hall : ([52, 52, 9, 23].all fun u => !Tryz.prog.wantsStandIn u) = true := by kernel_rfl
        exact (show Tryz.prog.wantsStandIn t = false by simpa using List.all_eq_true.1 hall t hm)⟩)
    (by kernel_rfl)
#print axioms rtexts_card
end Go.Proofs.YthkgnhfhjhcecaaGreatDoor
