/- The row of RuleBack and its tied card: for every input (under the row's conditions on the listed variables) the law returns true and its arguments read as before. -/
import Derived.Test.YtpjhjjkkbbmnjaaGreatDoorBi
import Derived.Test.YtpjhjjkkbbmnjaaGreatDoorBf
import Derived.Test.YtpjhjjkkbbmnjaaGreatDoorBj
import Derived.Test.YtpjhjjkkbbmnjaaGreatDoorTie
import Derived.Test.YtpjhjjkkbbmnjaaGreatDoorCards
import Derived.SliceStrings
import Derived.ChangeMaps5
/- rule.Same. -/
namespace Go.Vir
open Go Go.RowKit Go.Proofs Go.Shelf
attribute [local go_sem] Oper.semAt_some

theorem same_rule (x y : RuleV) : decide (x = y) = ((x.br == y.br) && (sameB x.sl y.sl x.xl y.xl && sameB x.sr y.sr x.xr y.xr)) := by
  obtain ⟨sl, xl, sr, xr, br⟩ := x
  obtain ⟨sl2, xl2, sr2, xr2, br2⟩ := y
  rw [Bool.eq_iff_iff]
  simp only [RuleV.mk.injEq, decide_eq_true_eq, sameB, Bool.and_eq_true, beq_iff_eq]
  constructor
  · rintro ⟨a, b, c, d, e⟩; exact ⟨e, ⟨a, b⟩, c, d⟩
  · rintro ⟨e, ⟨a, b⟩, c, d⟩; exact ⟨a, b, c, d, e⟩

set_option maxRecDepth 100000 in
set_option maxHeartbeats 1600000 in
theorem rule_Same1 (x y : RuleV) (Al Ar El Er : Option Addr) (ml cl mr cr nl dl nr dr : Nat) (w : World) (hx : RuleM w w.heap.size x Al ml cl Ar mr cr) (hy : RuleM w w.heap.size y El nl dl Er nr dr) :
    Calls Tryz.prog 85 #[ruleV x Al ml cl Ar mr cr, ruleV y El nl dl Er nr dr] w fun e w' => e = .returned (.bool (decide (x = y))) ∧ Below w.heap.size w w' := by
  rw [same_rule]
  have h1 := fun W (hW : Below w.heap.size w W) => pattern_Same x.sl y.sl Al El ml cl nl dl x.xl y.xl W ((hx.left.below hW).more hW.size) ((hy.left.below hW).more hW.size) hx.lb hy.lb
  have h2 := fun W (hW : Below w.heap.size w W) => pattern_Same x.sr y.sr Ar Er mr cr nr dr x.xr y.xr W ((hx.right.below hW).more hW.size) ((hy.right.below hW).more hW.size) hx.rb hy.rb
  have H1 := Lib.hid h1
  have H2 := Lib.hid h2
  clear h1 h2 hx hy
  obtain ⟨sl, xl, sr, xr, br⟩ := x
  obtain ⟨sl2, xl2, sr2, xr2, br2⟩ := y
  simp only at H1 H2
  simp only [ruleV]
  generalize sameB sl sl2 xl xl2 = s1 at *
  generalize sameB sr sr2 xr xr2 = s2 at *
  generalize hbb : (br == br2) = bb
  go_enter Tryz.func85, Tryz.ntmps85
  rcases bb with _ | _
  · go_wp2_with fail
    go_ret
    exact ⟨rfl, by go_grown⟩
  · go_wp2_with fail
    refine (H1.out _ (by go_grown)).mono ?_
    rintro e w1 ⟨rfl, hb1⟩
    have hX : w1.heap[w.heap.size]? = some (.cells #[.bool sl, .slice Al ml cl, .bool sr, .slice Ar mr cr, .bool br] 50 (0, 0)) := (hb1.block _ (by simp; omega)).trans ((heap_old (by simp)).trans (heap_new rfl))
    have hY : w1.heap[w.heap.size + 1]? = some (.cells #[.bool sl2, .slice El nl dl, .bool sr2, .slice Er nr dr, .bool br2] 50 (0, 0)) := (hb1.block _ (by simp)).trans (heap_new (by simp))
    have hb2 : Below w.heap.size w w1 := Below.trans (by go_grown) (hb1.mono (by simp; omega))
    have x2 : w1.cell? ⟨w.heap.size, 2, none⟩ = some (.bool sr) := cell_blk hX 2
    have x3 : w1.cell? ⟨w.heap.size, 3, none⟩ = some (.slice Ar mr cr) := cell_blk hX 3
    have y2 : w1.cell? ⟨w.heap.size + 1, 2, none⟩ = some (.bool sr2) := cell_blk hY 2
    have y3 : w1.cell? ⟨w.heap.size + 1, 3, none⟩ = some (.slice Er nr dr) := cell_blk hY 3
    clear hb1 hX hY
    rcases s1 with _ | _
    · go_wp2_with fail
      go_ret
      exact ⟨rfl, hb2⟩
    · go_wp2_with fail
      refine (H2.out _ hb2).mono ?_
      rintro e w2 ⟨rfl, hb3⟩
      go_wp2_with fail
      go_ret
      exact ⟨rfl, hb2.trans (hb3.mono hb2.size)⟩

set_option maxRecDepth 100000 in
set_option maxHeartbeats 1600000 in
theorem equalFunc_rule (A E : Option Addr) (n c m d : Nat) (xs ys : List RuleV) (w : World) (hx : Rls w w.heap.size A n xs) (hy : Rls w w.heap.size E m ys) (hn : n ≤ 1000000) :
    Calls Tryz.prog 84 #[.slice A n c, .slice E m d, .func (.func 85) #[] #[]] w fun e w' => e = .returned (.bool (decide (xs = ys))) ∧ Below w.heap.size w w' := by
  have eg := enters_of Tryz.func85 (by kernel_rfl) rfl
  have hxl := hx.len
  have hyl := hy.len
  by_cases hnm : n = m
  · subst hnm
    have Hxl := Lib.hid hxl
    have Hyl := Lib.hid hyl
    clear hxl hyl
    go_enter Tryz.func84, Tryz.ntmps84
    go_wp2
    go_loopw [17] (fun i wr => ∃ k : Nat, k ≤ n ∧ i = .int .i64 (k : Int) ∧ xs.take k = ys.take k ∧ Below w.heap.size w wr) (fun i _ => n - (RowKit.intOf i).toNat)
    case atStart => exact ⟨0, Nat.zero_le _, rfl, rfl, Below.refl _ _⟩
    case round =>
      obtain ⟨k, hk, rfl, htk, hbr⟩ := hrel
      rcases Nat.lt_or_ge k n with hlt | hge
      · obtain ⟨xb, xo, rfl, hxb, hxc⟩ := hx.at_ (by omega)
        obtain ⟨yb, yo, rfl, hyb, hyc⟩ := hy.at_ (by omega)
        have hkx : k < xs.length := by rw [Hxl.out]; exact hlt
        have hky : k < ys.length := by rw [Hyl.out]; exact hlt
        have hst : xs[k] = ys[k] → xs.take (k + 1) = ys.take (k + 1) := fun e => by
          rw [List.take_succ_eq_append_getElem hkx, List.take_succ_eq_append_getElem hky, htk, e]
        have hne : xs[k] ≠ ys[k] → xs ≠ ys := fun h e => h (by subst e; rfl)
        have Hst := Lib.hid hst
        have Hne := Lib.hid hne
        obtain ⟨Al, ml, cl, Ar, mr, cr, x0, x1, x2, x3, x4, hM⟩ := ((hxc k hkx).below hbr hxb).more hbr.size
        obtain ⟨El, nl, dl, Er, nr, dr, y0, y1, y2, y3, y4, hN⟩ := ((hyc k hky).below hbr hyb).more hbr.size
        have hs1 := fun W (hW : Below wr.heap.size wr W) => rule_Same1 xs[k] ys[k] Al Ar El Er ml cl mr cr nl dl nr dr W ((hM.below hW).more hW.size) ((hN.below hW).more hW.size)
        clear hxc hyc hst hne htk hM hN
        generalize xs[k] = a at *
        generalize ys[k] = b at *
        have hab : decide (a = b) = true ∨ decide (a = b) = false := by cases decide (a = b) <;> simp
        generalize hdd : decide (a = b) = dd at *
        have Hdd := Lib.hid hdd
        obtain ⟨sl, xl, sr, xr, br⟩ := a
        obtain ⟨sl2, xl2, sr2, xr2, br2⟩ := b
        simp only [ruleV] at hs1
        simp only at x0 x1 x2 x3 x4 y0 y1 y2 y3 y4
        have Hs1 := Lib.hid hs1
        have hlw := hbr.size
        have hyb2 : yb < wr.heap.size := by omega
        clear hs1 hdd hab
        go_wp2_with fail
        refine (Hs1.out _ (by go_grown)).mono ?_
        rintro e w1 ⟨rfl, hb1⟩
        have hb2 : Below w.heap.size w w1 := hbr.trans ((Below.trans (by go_grown) (hb1.mono (by simp; omega)) : Below wr.heap.size wr w1).mono hbr.size)
        rcases dd with _ | _
        · have h1 : decide (xs = ys) = false := decide_eq_false (Hne.out (of_decide_eq_false Hdd.out))
          have H1 := Lib.hid h1
          clear h1
          go_wp2_with fail
          go_ret
          exact ⟨ret_bool H1.out.symm, hb2⟩
        · have h2 := Hst.out (of_decide_eq_true Hdd.out)
          have H2 := Lib.hid h2
          clear h2
          go_wp2_with fail
          go_roundw
          case rel => exact ⟨k + 1, by omega, by go_num, H2.out, hb2⟩
          case measure => simp [RowKit.intOf]; omega
      · have h1 : decide (xs = ys) = true := by
          rw [List.take_of_length_le (by rw [Hxl.out]; exact hge), List.take_of_length_le (by rw [Hyl.out]; exact hge)] at htk
          exact decide_eq_true htk
        have H1 := Lib.hid h1
        clear h1 htk
        go_wp2_with fail
        go_ret
        exact ⟨ret_bool H1.out.symm, hbr⟩
  · have h1 : decide (xs = ys) = false := decide_eq_false (fun e => hnm (by rw [← hxl, ← hyl, e]))
    have H1 := Lib.hid h1
    have hne : ((n : Int) != (m : Int)) = true := by rw [bne_iff_ne]; omega
    clear hxl hyl h1
    go_enter Tryz.func84, Tryz.ntmps84
    go_wp2
    go_ret
    exact ⟨ret_bool H1.out.symm, Below.refl _ _⟩

theorem rule_Same (A E : Option Addr) (n c m d : Nat) (xs ys : List RuleV) (w : World) (hx : Rls w w.heap.size A n xs) (hy : Rls w w.heap.size E m ys) (hn : n ≤ 1000000) :
    Calls Tryz.prog 50 #[.slice A n c, .slice E m d] w fun e w' => e = .returned (.bool (decide (xs = ys))) ∧ Below w.heap.size w w' := by
  have hc := equalFunc_rule A E n c m d xs ys w hx hy hn
  have Hc := Lib.hid hc
  clear hc hx hy
  generalize decide (xs = ys) = V at *
  go_enter Tryz.func50, Tryz.ntmps50
  go_wp2_with fail
  refine Hc.out.mono ?_
  rintro e w1 ⟨rfl, hb1⟩
  go_wp2_with fail
  go_ret
  exact ⟨rfl, hb1⟩
end Go.Vir

/- viramalaw11: RuleBack. -/
namespace Go.Vir
open Go Go.RowKit Go.Proofs Go.Shelf
attribute [local go_sem] Oper.semAt_some

theorem rp_good (rs : List RuleV) (ss : List (List UInt8)) : ((rpB rs ss).2 = 0 ∧ (rpB rs ss).1 = rulesT rs ss ∧ namesB ss = true ∧ rulesB ss.length rs = true) ∨ ((rpB rs ss).2 ≠ 0 ∧ (rpB rs ss).1 = []) := by
  unfold rpB
  split
  · split
    · left; rename_i a b; exact ⟨rfl, rfl, a, b⟩
    · right; exact ⟨by decide, rfl⟩
  · right; exact ⟨by decide, rfl⟩
theorem rpar_names {s : List UInt8} {ss : List (List UInt8)} (h : (rparB s ss).2.2 = 0) : namesB ss = true := by
  rcases hn : namesB ss with _ | _
  · rw [rparB, hn] at h; simp at h
  · rfl
theorem rules_lines {rs : List RuleV} {ss : List (List UInt8)} (hN : namesB ss = true) (hR : rulesB ss.length rs = true) (hs : ∀ t ∈ ss, t.length ≤ 42) : ∀ t ∈ splitL 10 (rulesT rs ss), t.length ≤ 100000 := by
  simp only [rulesB, Bool.and_eq_true, decide_eq_true_eq, List.all_eq_true] at hR
  rw [rules_split hN rs hR.2.2.2]
  intro t ht
  rcases List.mem_append.1 ht with h | h
  · obtain ⟨x, _, rfl⟩ := List.mem_map.1 h
    exact ruleT_short hs
  · have : t = [] := by simpa using h
    rw [this]; simp
theorem splitL_nil (c : UInt8) : splitL c [] = [[]] := rfl

set_option maxRecDepth 100000 in
set_option maxHeartbeats 8000000 in
theorem law_rback (A B : Option Addr) (m0 c0 n0 c1 : Nat) (rs0 : List RuleV) (s0 : List UInt8) (ss0 : List (List UInt8)) (w : World) (hG : Globs w) (hx : RlsI w w.heap.size A m0 rs0) (hz : Strs w w.heap.size B n0 ss0) (hn0 : n0 ≤ 9223372036854775807) (hs0 : s0.length ≤ 9223372036854775807) :
    Calls Tryz.prog 13 #[.slice A m0 c0, .string ⟨s0.toArray⟩, .slice B n0 c1] w fun e w' => e = .returned (.bool true) ∧ Below w.heap.size w w' := by
  go_enter Tryz.func13, Tryz.ntmps13
  go_wp2_with fail
  refine (law11_shown _ hG).mono ?_
  rintro e w1 ⟨rfl, hb1⟩
  have hx1 := (hx.below hb1).more hb1.size
  go_wp2_with fail
  refine (law11_Few A m0 c0 rs0 w1 hx1).mono ?_
  rintro e w2 ⟨⟨A2, m, c, rfl, hm, hmc, hR, hm42⟩, hb2⟩
  have Hm := Lib.hid hm
  have hb3 := hb1.trans (hb2.mono hb1.size)
  have hz2 := (hz.below hb3).more hb3.size
  have hr42 : (fewR rs0).length ≤ 42 := by rw [fewR_len]; omega
  clear hm hx hx1 hz hb1 hb2
  go_wp2_with fail
  refine (law_Few5 B n0 c1 ss0 w2 hz2 hn0).mono ?_
  rintro e w3 ⟨⟨B', n', c', rfl, hn', hS⟩, hb4⟩
  have hb5 := hb3.trans (hb4.mono hb3.size)
  have hR3 := (hR.below hb4).more hb4.size
  obtain ⟨hf1, hf2⟩ := few_len ss0
  have hsn := hS.len
  have hn34 : n' ≤ 34 := by omega
  generalize fewR rs0 = rs at *
  generalize fewL ss0 = ss at *
  have hs1000 : ∀ x ∈ ss, x.length ≤ 1000 := fun x hx => by have := hf2 x hx; omega
  have hpr := rule_Print A2 B' m c n' c' rs ss w3 (hG.below hb5) hR3 (by omega) (by omega) hS hf2
  have hgood := rp_good rs ss
  have Hgood := Lib.hid hgood
  have hlen := rulesT_len hf2 rs
  have hlines := fun h1 h2 => rules_lines (rs := rs) (ss := ss) h1 h2 hf2
  have hback := fun h1 h2 => rules_back (ss := ss) (rs := rs) h1 h2
  have Hlines := Lib.hid hlines
  have Hback := Lib.hid hback
  have Hsn := Lib.hid hsn
  clear hgood hlines hback hsn hf1 hf2 hb4 hR hz2 hb3 hn'
  obtain ⟨pr, hpre⟩ : ∃ pr, pr = rpB rs ss := ⟨_, rfl⟩
  have Hpre := Lib.hid hpre
  rw [← hpre] at hpr
  clear hpre
  obtain ⟨t, pe⟩ := pr
  simp only at hpr
  have Hpr := Lib.hid hpr
  clear hpr
  go_wp2_with fail
  refine Hpr.out.mono ?_
  rintro e w4 ⟨rfl, hb6⟩
  have hb7 := hb5.trans (hb6.mono hb5.size)
  have hR4 := (hR3.below hb6).more hb6.size
  have hS4 := (hS.below hb6).more hb6.size
  clear hb5 hb6 hR3 hS Hpr
  have hnone := rpar_none (s := s0.take 600) (ss := ss)
  have hright := fun (h : (rparB (s0.take 600) ss).2.2 = 0) => rules_right (rpar_names h) h
  rw [Hsn.out] at hright
  have hp2 := fun W (hW : Below w4.heap.size w4 W) => rule_Parse (s0.take 600) B' n' c' ss W (hG.below (hb7.trans (hW.mono hb7.size))) (by omega) ((hS4.below hW).more hW.size) hs1000 (by simp; omega)
  generalize rparB (s0.take 600) ss = r2 at hp2 hnone hright
  obtain ⟨ms, k2, g⟩ := r2
  simp only at hnone hright
  have Hp2 := Lib.hid hp2
  have Hnone := Lib.hid hnone
  have Hright := Lib.hid hright
  have hcut := fun W => law11_cut s0 W hs0
  have Hcut := Lib.hid hcut
  clear hp2 hnone hright hcut
  rcases Hgood.out with ⟨h0, h1, hN, hRt⟩ | ⟨h0, h1⟩
  · have hbk := Hback.out hN hRt
    rw [← Hpre.out] at h0 h1 hbk
    simp only at h0 h1 hbk
    subst h0
    have hp1 := rule_ParseB t B' n' c' ss w4 (hG.below hb7) (by omega) hS4 hs1000 (by rw [h1]; omega) (by rw [h1]; exact Hlines.out hN hRt)
    rw [hbk] at hp1
    have Hp1 := Lib.hid hp1
    clear hp1 hbk h1 hN hRt
    go_wp2_with fail
    refine Hp1.out.mono ?_
    rintro e w5 ⟨⟨A5, n5, c5, rfl, hc5, hR5⟩, hb8⟩
    simp only at hR5
    have hn5 : n5 ≤ 42 := by have := hR5.len; omega
    have hsm := rule_Same A5 A2 n5 c5 m c rs rs w5 hR5 ((hR4.below hb8).more hb8.size) (by omega)
    rw [decide_eq_true rfl] at hsm
    have Hsm := Lib.hid hsm
    clear hsm Hp1
    go_wp2_with fail
    refine Hsm.out.mono ?_
    rintro e w6 ⟨rfl, hb9⟩
    have hb10 := hb8.trans (hb9.mono hb8.size)
    clear hR5 hb8 hb9 Hsm
    go_wp2_with fail
    refine (Hcut.out w6).mono ?_
    rintro e w6' ⟨rfl, rfl⟩
    go_wp2_with fail
    refine (Hp2.out w6 hb10).mono ?_
    rintro e w7 ⟨⟨A7, n7, c7, rfl, hc7, hR7⟩, hb11⟩
    simp only at hR7
    have hb12 := hb7.trans ((hb10.trans (hb11.mono hb10.size)).mono hb7.size)
    have hl7 := hR7.len
    rcases hg : (g == 0) with _ | _
    · have hgne : g ≠ 0 := by rw [beq_eq_false_iff_ne] at hg; exact hg
      have hg2 : (g != 0) = true := by rw [bne_iff_ne]; exact hgne
      have hms := Hnone.out hgne
      rw [hms] at hl7
      have hz7 : n7 = 0 := by simpa using hl7.symm
      subst hz7
      clear hl7 hgne hms hR7
      go_wp2_with fail
      go_ret
      exact ⟨rfl, hb12⟩
    · have hg0 : g = 0 := by rw [beq_iff_eq] at hg; exact hg
      have hpr := Hright.out hg0
      have hn7 : n7 ≤ 40 := by
        have h9 := hpr
        simp only [rulesB, Bool.and_eq_true, decide_eq_true_eq] at h9
        omega
      have hrr := rule_Right A7 n7 c7 ms (n' : Int) w7 hR7 (by omega)
      rw [hpr] at hrr
      have Hrr := Lib.hid hrr
      clear hrr hpr hg hl7 hR7
      subst hg0
      go_wp2_with fail
      refine Hrr.out.mono ?_
      rintro e w8 ⟨rfl, hb13⟩
      go_wp2_with fail
      go_ret
      exact ⟨rfl, hb12.trans (hb13.mono hb12.size)⟩
  · rw [← Hpre.out] at h0 h1
    simp only at h0 h1
    subst h1
    have hpe2 : (pe == 0) = false := by rw [beq_eq_false_iff_ne]; exact h0
    have hp1 := rule_ParseB [] B' n' c' ss w4 (hG.below hb7) (by omega) hS4 hs1000 (by simp) (by rw [splitL_nil]; simp)
    generalize rparB [] ss = r1 at hp1
    obtain ⟨ls, k1, f1⟩ := r1
    have Hp1 := Lib.hid hp1
    clear hp1 h0
    go_wp2_with fail
    refine Hp1.out.mono ?_
    rintro e w5 ⟨⟨A5, n5, c5, rfl, hc5, hR5⟩, hb8⟩
    clear hR5 Hp1
    go_wp2_with fail
    refine (Hcut.out w5).mono ?_
    rintro e w6' ⟨rfl, rfl⟩
    go_wp2_with fail
    refine (Hp2.out w5 hb8).mono ?_
    rintro e w7 ⟨⟨A7, n7, c7, rfl, hc7, hR7⟩, hb11⟩
    simp only at hR7
    have hb12 := hb7.trans ((hb8.trans (hb11.mono hb8.size)).mono hb7.size)
    have hl7 := hR7.len
    rcases hg : (g == 0) with _ | _
    · have hgne : g ≠ 0 := by rw [beq_eq_false_iff_ne] at hg; exact hg
      have hg2 : (g != 0) = true := by rw [bne_iff_ne]; exact hgne
      have hms := Hnone.out hgne
      rw [hms] at hl7
      have hz7 : n7 = 0 := by simpa using hl7.symm
      subst hz7
      clear hl7 hgne hms hR7
      go_wp2_with fail
      go_ret
      exact ⟨rfl, hb12⟩
    · have hg0 : g = 0 := by rw [beq_iff_eq] at hg; exact hg
      have hpr := Hright.out hg0
      have hn7 : n7 ≤ 40 := by
        have h9 := hpr
        simp only [rulesB, Bool.and_eq_true, decide_eq_true_eq] at h9
        omega
      have hrr := rule_Right A7 n7 c7 ms (n' : Int) w7 hR7 (by omega)
      rw [hpr] at hrr
      have Hrr := Lib.hid hrr
      clear hrr hpr hg hl7 hR7
      subst hg0
      go_wp2_with fail
      refine Hrr.out.mono ?_
      rintro e w8 ⟨rfl, hb13⟩
      go_wp2_with fail
      go_ret
      exact ⟨rfl, hb12.trans (hb13.mono hb12.size)⟩
end Go.Vir

/- Rows: texts that come in. -/
namespace Go.Vir
open Go Go.RowKit Go.Proofs Go.ChangeShapes Go.WideShapes Go.ChangeAt

theorem strs_opened {W : World} {a : Addr} {len cap : Nat} {ss : List ByteArray} (hl : len ≤ cap) (hz : ss.length = cap)
    (hc : ∀ i, i < ss.length → W.cell? (a.add i) = some (.string (ss.getD i ByteArray.empty))) : Strs W W.heap.size (some a) len ((ss.take len).map (·.data.toList)) := by
  have hlen : ((ss.take len).map (·.data.toList)).length = len := by simp; omega
  refine ⟨hlen, fun h0 => ?_⟩
  obtain ⟨b, o, sp⟩ := a
  have h1 := hc 0 (by omega)
  have hsp : sp = none := by
    cases sp with
    | none => rfl
    | some x =>
      simp only [Addr.add, if_pos, World.cell?] at h1
      split at h1 <;> simp at h1
  subst hsp
  have hb : b < W.heap.size := by
    rcases Nat.lt_or_ge b W.heap.size with h | h
    · exact h
    · simp [World.cell?, Addr.add, Array.getElem?_eq_none h] at h1
  refine ⟨b, o, rfl, hb, fun j hj => ?_⟩
  rw [hlen] at hj
  have hj2 : j < ss.length := by omega
  have h2 := hc j hj2
  have e : (Addr.add ⟨b, o, none⟩ j) = ⟨b, o + j, none⟩ := by
    unfold Addr.add
    split <;> simp_all
  rw [e] at h2
  rw [h2]
  simp [List.getD, hj2]

set_option maxRecDepth 100000 in
theorem open_texts {H : Type} {enc : TypeId × Value → H} {W : World} {base : Nat} {v : Value} {d : DataW H} {p : List MemPlace}
    (hval : Value.okWide Tryz.prog W .any base 25 v) (h : DataW.Trod enc Tryz.prog W 0 (fun _ => true) true 25 v d p) :
    ∃ A n c ss, v = .slice A n c ∧ n ≤ 9223372036854775807 ∧ Strs W W.heap.size A n ss := by
  obtain ⟨a0, len, cap, rfl⟩ := okWide_slice Tryz.underlying25 hval
  obtain ⟨fuel, hf⟩ := h
  rcases open_strings Tryz.underlying25 Tryz.underlying9 (by kernel_rfl) hf with ⟨hcs, hx⟩ | ⟨a, len', cap', ss, hcs, _, hl, hm, hz, hx, hcell, _⟩
  · simp [Value.cells] at hcs
    obtain ⟨rfl, rfl, rfl⟩ := hcs
    exact ⟨_, _, _, [], rfl, by omega, Strs.nil _ _ _⟩
  · simp [Value.cells] at hcs
    obtain ⟨rfl, rfl, rfl⟩ := hcs
    unfold maxLen at hm
    exact ⟨_, _, _, _, rfl, by omega, strs_opened hl (by simpa using hz) hcell⟩

set_option maxRecDepth 100000 in
theorem open_text {H : Type} {enc : TypeId × Value → H} {W : World} {base : Nat} {v : Value} {d : DataW H} {p : List MemPlace}
    (hval : Value.okWide Tryz.prog W .any base 9 v) (h : DataW.Trod enc Tryz.prog W 0 (fun _ => true) true 9 v d p) :
    ∃ s : List UInt8, v = .string ⟨s.toArray⟩ ∧ s.length ≤ 9223372036854775807 := by
  obtain ⟨s, rfl, _, _, hs⟩ := Go.ChangeMaps.open_string Tryz.underlying9 hval h
  refine ⟨s.data.toList, by simp, ?_⟩
  unfold maxLen at hs
  have : s.size = s.data.toList.length := Lib.size_eq s
  omega
end Go.Vir

/- The row of RuleBack and its tied card: for every input (under the row's conditions on the listed variables) the law returns true and its arguments read as before. -/
namespace Go.Proofs.YtpjhjjkkbbmnjaaGreatDoor
open Go Go.Vir Go.RowKit Go.Proofs Go.ChangeShapes Go.WideShapes Go.ChangeAt

set_option maxHeartbeats 800000 in
set_option maxRecDepth 100000 in
theorem rback_lifted (os : Os) (started : os.Started) (H : Type) (enc : TypeId × Value → H) :
    ReturnsInHanded {} Tryz.checked os 13 .any (fun w args => (Rows.ruleBackSpec.pre enc Tryz.prog Tryz.f13 [] false w args ∧ laidMetH Tryz.prog laid5 w) ∧ sizedMet enc Tryz.prog Tryz.f13 (OpenSpec.ofChange Rows.ruleBackSpec) false w args)
      (Rows.ruleBackSpec.post enc Tryz.prog Tryz.f13 false true false false) := by
  refine returns_shaped (C := Tryz.checked) (X := fun w _ => laidMetH Tryz.prog laid5 w) (fun _ _ _ hh h => h.of_heap hh) own started (by kernel_rfl) Tryz.func13
    (ChangeSpec.witness_shaped (enc := enc) (C := Tryz.checked) (os := os) (X := fun w _ => laidMetH Tryz.prog laid5 w) false (world5 os) #[.slice none 0 0, .string ⟨#[]⟩, .slice none 0 0] 8 (world5_os os) (world5_shaped os) (by kernel_rfl) (by kernel_rfl) (by kernel_rfl) (world5_met os _)) ?_
  intro W base args ds gs before hval0 hW hsh hL
  have hval : ∀ (j : Nat) t v, Tryz.f13.params[j]? = some t → args[j]? = some v → Value.okWide Tryz.prog W .any base t v := hval0
  have hW' := hW
  obtain ⟨p, q, hA0, hV, rfl, _, _⟩ := hW
  have hA : DataW.TrodAll enc Tryz.prog W 0 (fun _ => true) true Tryz.f13.params.toList args.toList ds p := hA0
  rw [Tryz.params13] at hA hval
  obtain ⟨v0, v1, v2, d0, d1, d2, p0, p1, p2, rfl, rfl, rfl, h0, h1, h2⟩ := trodAll_three hA
  obtain ⟨rfl, rfl⟩ := trodVars_none hV
  have hlt : ∀ x ∈ p0 ++ p1 ++ p2, x.block < W.heap.size := fun x hx => by simpa using hW'.lt x (by simpa using hx)
  have hargs : ∀ (W' : World), Below W.heap.size W W' → DataW.TrodAll enc Tryz.prog W' 0 (fun b => decide (b < W.heap.size)) true #[42, 9, 25].toList #[v0, v1, v2].toList [d0, d1, d2] (p0 ++ (p1 ++ p2)) := fun W' hn =>
    trodAll_mk3 (Below.trod laidOut (by kernel_rfl) (of_decide_eq_true (by kernel_rfl)) h0 hn (fun x hx => hlt x (by simp [hx]))) (Below.trod laidOut (by kernel_rfl) (of_decide_eq_true (by kernel_rfl)) h1 hn (fun x hx => hlt x (by simp [hx]))) (Below.trod laidOut (by kernel_rfl) (of_decide_eq_true (by kernel_rfl)) h2 hn (fun x hx => hlt x (by simp [hx])))
  have hG := globs_of_laid hsh hL
  have key : Calls Tryz.prog 13 #[v0, v1, v2] W fun e W' => e = .returned (.bool true) ∧ Below W.heap.size W W' := by
    obtain ⟨A, m, c, rs, rfl, hc, hm, hx⟩ := open_rules (hval 0 42 v0 rfl rfl) h0
    obtain ⟨s, rfl, hs⟩ := open_text (hval 1 9 v1 rfl rfl) h1
    obtain ⟨B, n, c2, ss, rfl, hn, hz⟩ := open_texts (hval 2 25 v2 rfl rfl) h2
    exact law_rback A B m c n c2 rs s ss W hG hx hz hn hs
  refine key.mono fun e W' ⟨he, hn⟩ => ?_
  subst he
  exact ⟨_, rfl, _, _, _, [], _, [], hW', trodAll_mk1 (shut_bool Tryz.underlying4 true), hargs _ hn, rfl, hn.frame _, fun h => by cases h⟩

theorem rback_holds : Rows.RuleBackSaid :=
  OpenClaim.holds_of_wide 13 Tryz.f13 rfl rfl rfl rfl rfl rfl rfl ⟨rfl, rfl, rfl, rfl, rfl⟩ rfl rfl rfl rfl rfl (by kernel_rfl) Tryz.func13 (by kernel_rfl)
    (of_decide_eq_true (by kernel_rfl)) (by unfold Func.isWrapper; first | (rw [if_pos (by decide +kernel)]; kernel_rfl) | (rw [if_neg (by decide +kernel)]; exact ⟨rfl, rfl⟩))
    (fun os started H enc _ => rback_lifted os started H enc)

theorem rback_card : Rows.RuleBackCardSaid :=
  Claim7.holds_tied_plain_at .later [] [.data, .handle, .sentinel, .sentinel, .pinned] true (true, "f3439994263bda936d81294eb39ac78299b5f0291b6d31f5858efdaf1e51f421") true
    rback_holds (fun _ h => by cases h) (by kernel_rfl) (fun _ h => by cases h) ruleBack_row_tie rfl ⟨rfl, rfl⟩ (by kernel_rfl) rfl
    (fun f fn hf hfn => by
      obtain rfl : f = 13 := Option.some.inj ((show Tryz.prog.funcNamed "virama/viramalaw11.RuleBack" = some 13 by kernel_rfl).symm.trans hf) |>.symm
      obtain rfl : fn = Tryz.f13 := (Option.some.inj (Tryz.func13.symm.trans hfn)).symm
      exact ⟨by kernel_rfl, fun j t ht => by
        rw [Tryz.params13] at ht
        have hm : t ∈ [42, 9, 25] := by simpa using Array.mem_of_getElem? ht
        have hall : ([42, 9, 25].all fun u => !Tryz.prog.wantsStandIn u) = true := by kernel_rfl
        exact (show Tryz.prog.wantsStandIn t = false by simpa using List.all_eq_true.1 hall t hm)⟩)
    (by kernel_rfl)
#print axioms rback_card
end Go.Proofs.YtpjhjjkkbbmnjaaGreatDoor
