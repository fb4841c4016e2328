/- Joined texts: Rgd, Rge, Rg8. -/
import Derived.Test.YthkgnhfhjhcecaaGreatDoorBl
import Derived.Test.YthkgnhfhjhcecaaGreatDoorBh
import Derived.Test.YthkgnhfhjhcecaaGreatDoorBi
import Derived.Test.YthkgnhfhjhcecaaGreatDoorBf
/- The reference's rules: viramaref11.Print. -/
namespace Go.Vir
open Go Go.RowKit Go.Proofs Go.Shelf
attribute [local go_sem] Oper.semAt_some

theorem ruleT_form (x : RuleV) (ss : List (List UInt8)) : ruleT x ss = (if (ppB x.sl x.xl ss).1 = [] then [] else (ppB x.sl x.xl ss).1 ++ [32]) ++ ((if x.br then 47 else 43) :: (if (ppB x.sr x.xr ss).1 = [] then [] else 32 :: (ppB x.sr x.xr ss).1)) := by
  unfold ruleT rulePs
  generalize (ppB x.sl x.xl ss).1 = P
  generalize (ppB x.sr x.xr ss).1 = Q
  by_cases hp : P = []
  · by_cases hq : Q = []
    · simp [hp, hq, Lib.join_one]
    · simp [hp, hq, Lib.join_cons, Lib.joinTail]
  · by_cases hq : Q = []
    · simp [hp, hq, Lib.join_cons, Lib.joinTail]
    · simp [hp, hq, Lib.join_cons, Lib.joinTail]

set_option maxRecDepth 100000 in
set_option maxHeartbeats 3200000 in
theorem ref_Print11 (Ar A : Option Addr) (m cr n c : Nat) (rs : List RuleV) (ss : List (List UInt8)) (w : World) (hr : Rls w w.heap.size Ar m rs) (hm : m ≤ 1000000) (hn : n ≤ 1000000) (hnc : n ≤ c) (hz : Strs w w.heap.size A n ss) (hs : ∀ t ∈ ss, t.length ≤ 42) :
    Calls Tryz.prog 34 #[.slice Ar m cr, .slice A n c] w fun e w' => e = .returned (.tuple #[.string ⟨(rpB rs ss).1.toArray⟩, .int .i64 (rpB rs ss).2]) ∧ Below w.heap.size w w' := by
  have hlen := hz.len
  have hrl := hr.len
  have hs' : ∀ x ∈ ss, x.length ≤ 1000 := fun x hx => by have := hs x hx; omega
  have hnm := fun W (hW : Below w.heap.size w W) => ref_Names A n c ss W hn hnc ((hz.below hW).more hW.size) (fun x hx => by have := hs x hx; omega)
  have hri := fun W (hW : Below w.heap.size w W) => ref_Right11 Ar m cr rs n W ((hr.below hW).more hW.size) hm
  have hpr := fun st Ai k ci xs W (hW : Below w.heap.size w W) (hx : Prs W W.heap.size Ai k xs) (hk : k ≤ 1000) => ref_Print9 st Ai k ci xs A n c ss W hx (by omega) hn hnc ((hz.below hW).more hW.size) hs'
  have hpl := fun (st : Bool) (xs : List (Int × Int)) => pp_short (st := st) (xs := xs) hs
  have hRT := rulesT_len hs
  have Hnm := Lib.hid hnm
  have Hri := Lib.hid hri
  have Hpr := Lib.hid hpr
  have Hpl := Lib.hid hpl
  have HRT := Lib.hid hRT
  clear hnm hri hpr hpl hRT hs' hs
  rcases hN : namesB ss with _ | _
  · have hp : rpB rs ss = ([], 2) := by simp [rpB, hN]
    rw [hp]
    rw [hN] at Hnm
    clear hp hN
    go_enter Tryz.func34, Tryz.ntmps34
    go_wp2_with fail
    refine (Hnm.out _ (by go_grown)).mono ?_
    rintro e w1 ⟨rfl, hb1⟩
    go_wp2_with fail
    go_ret2
    exact ⟨rfl, hb1⟩
  · rw [hN] at Hnm
    rcases hR : rulesB n rs with _ | _
    · have hp : rpB rs ss = ([], 90) := by simp [rpB, hN, hlen, hR]
      rw [hp]
      rw [hR] at Hri
      clear hp hN hR
      go_enter Tryz.func34, Tryz.ntmps34
      go_wp2_with fail
      refine (Hnm.out _ (by go_grown)).mono ?_
      rintro e w1 ⟨rfl, hb1⟩
      go_wp2_with fail
      refine (Hri.out w1 hb1).mono ?_
      rintro e w2 ⟨rfl, hb2⟩
      go_wp2_with fail
      go_ret2
      exact ⟨rfl, hb1.trans (hb2.mono hb1.size)⟩
    · have hp : rpB rs ss = (rulesT rs ss, 0) := by simp [rpB, hN, hlen, hR]
      rw [hp]
      rw [hR] at Hri
      have hm40 : m ≤ 40 := by
        simp only [rulesB, Bool.and_eq_true, decide_eq_true_eq] at hR
        have := hR.2.2.1
        omega
      have Hrl := Lib.hid hrl
      clear hp hN hR hrl hlen
      go_enter Tryz.func34, Tryz.ntmps34
      go_wp2_with fail
      refine (Hnm.out _ (by go_grown)).mono ?_
      rintro e w1 ⟨rfl, hb1⟩
      go_wp2_with fail
      refine (Hri.out w1 hb1).mono ?_
      rintro e w2 ⟨rfl, hb2⟩
      have hb3 := hb1.trans (hb2.mono hb1.size)
      clear hb1 hb2
      go_wp2_with fail
      go_loopw [6, 7] (fun tv i wr => ∃ k : Nat, k ≤ m ∧ i = .int .i64 (k : Int) ∧ tv = .string ⟨(rulesT (rs.take k) ss).toArray⟩ ∧ Below w.heap.size w wr) (fun _ i _ => m - (RowKit.intOf i).toNat)
      case atStart => exact ⟨0, Nat.zero_le _, rfl, rfl, hb3⟩
      case round =>
        obtain ⟨k, hk, rfl, rfl, hbr⟩ := hrel
        rcases Nat.lt_or_ge k m with hlt | hge
        · obtain ⟨rb, ro, rfl, hrb, hrc⟩ := hr.at_ (by omega)
          have hkr : k < rs.length := by rw [Hrl.out]; exact hlt
          obtain ⟨Al, ml, cl, Ar2, mr, cr2, x0, x1, x2, x3, x4, hM⟩ := hrc k hkr
          have y0 := (cellOf hbr hrb).trans x0
          have y1 := (cellOf hbr hrb).trans x1
          have Hsu := Lib.hid ((rulesT_succ rs ss k hkr).trans (by rw [ruleT_form]))
          have hLk := HRT.out (rs.take k)
          have hLt := List.length_take_le k rs
          clear hrc
          generalize rs[k] = x at *
          obtain ⟨sl, xl, sr, xr, br⟩ := x
          simp only at y0 y1 x2 x3 x4
          have hml := hM.lb
          have hmr := hM.rb
          have hP1 := Hpr.out sl Al ml cl xl wr hbr ((hM.left.below hbr).more hbr.size) (by omega)
          have hP2 := fun W (hW : Below w.heap.size w W) => Hpr.out sr Ar2 mr cr2 xr W hW ((hM.right.below hW).more hW.size) (by omega)
          have hl1 := Hpl.out sl xl
          have hl2 := Hpl.out sr xr
          simp only at Hsu
          generalize ppB sl xl ss = p1 at *
          generalize ppB sr xr ss = p2 at *
          obtain ⟨P, e1⟩ := p1
          obtain ⟨Q, e2⟩ := p2
          simp only at hl1 hl2 Hsu hP1 hP2
          have HP1 := Lib.hid hP1
          have HP2 := Lib.hid hP2
          have hJl : (rulesT (rs.take k) ss).length ≤ 40 * 100001 := Nat.le_trans hLk (Nat.mul_le_mul_right _ (by omega))
          clear hM hP1 hP2 hLk hLt x0 x1
          generalize rulesT (rs.take k) ss = J at *
          go_wp2_with fail
          refine HP1.out.mono ?_
          rintro e w4 ⟨rfl, hb4⟩
          have hb5 := hbr.trans (hb4.mono hbr.size)
          have z2 := (cellOf hb5 hrb).trans x2
          have z3 := (cellOf hb5 hrb).trans x3
          clear y0 y1 hb4 HP1
          go_wp2_with fail
          refine (HP2.out _ hb5).mono ?_
          rintro e w6 ⟨rfl, hb6⟩
          have hb7 := hb5.trans (hb6.mono hb5.size)
          have u4 := (cellOf hb7 hrb).trans x4
          clear z2 z3 hb5 hb6 HP2 x2 x3 x4
          have g1 : ¬ 9223372036854775807 < P.length + 1 := by omega
          have g2 : ¬ 9223372036854775807 < P.length + 1 + 1 := by omega
          have g3 : ¬ 9223372036854775807 < P.length + 1 + 1 + 1 := by omega
          have g4 : ¬ 9223372036854775807 < P.length + 1 + 1 + 1 + Q.length := by omega
          have g5 : ¬ 9223372036854775807 < 1 + 1 + Q.length := by omega
          have g5' : ¬ 9223372036854775807 < 2 + Q.length := by omega
          have g6 : ¬ 9223372036854775807 < J.length + (P.length + 1 + 1 + 1 + Q.length) := by omega
          have g7 : ¬ 9223372036854775807 < J.length + (P.length + 1 + 1) := by omega
          have g8 : ¬ 9223372036854775807 < J.length + (1 + 1 + Q.length) := by omega
          have g8' : ¬ 9223372036854775807 < J.length + (2 + Q.length) := by omega
          have g9 : ¬ 9223372036854775807 < J.length + 1 := by omega
          have g10 : ¬ 9223372036854775807 < J.length + 1 + 1 := by omega
          have g11 : ¬ 9223372036854775807 < J.length + (P.length + 1 + 1) + 1 := by omega
          have g12 : ¬ 9223372036854775807 < J.length + (P.length + 1 + 1 + 1 + Q.length) + 1 := by omega
          have g13 : ¬ 9223372036854775807 < J.length + (1 + 1 + Q.length) + 1 := by omega
          have g13' : ¬ 9223372036854775807 < J.length + (2 + Q.length) + 1 := by omega
          by_cases hP : P = []
          · by_cases hQ : Q = []
            · subst hP hQ
              have hsu := Hsu.out
              clear Hsu
              rw [if_pos (rfl : ([] : List UInt8) = [])] at hsu
              rw [if_pos (rfl : ([] : List UInt8) = [])] at hsu
              rcases br with _ | _
              · rw [if_neg (show ¬ (false = true) by decide)] at hsu
                have HS := Lib.hid hsu
                clear hsu
                go_wp2_with fail
                go_roundw
                case rel => exact ⟨k + 1, by omega, by go_num, by rw [HS.out]; simp [bytes_app], hb7⟩
                case measure => simp [RowKit.intOf]; omega
              · rw [if_pos (rfl : true = true)] at hsu
                have HS := Lib.hid hsu
                clear hsu
                go_wp2_with fail
                go_roundw
                case rel => exact ⟨k + 1, by omega, by go_num, by rw [HS.out]; simp [bytes_app], hb7⟩
                case measure => simp [RowKit.intOf]; omega
            · subst hP
              have hQe : Q.isEmpty = false := by cases Q with | nil => exact absurd rfl hQ | cons a b => rfl
              have hsu := Hsu.out
              clear Hsu
              rw [if_pos (rfl : ([] : List UInt8) = [])] at hsu
              rw [if_neg hQ] at hsu
              rcases br with _ | _
              · rw [if_neg (show ¬ (false = true) by decide)] at hsu
                have HS := Lib.hid hsu
                clear hsu
                go_wp2_with fail
                go_roundw
                case rel => exact ⟨k + 1, by omega, by go_num, by rw [HS.out]; simp [bytes_app], hb7⟩
                case measure => simp [RowKit.intOf]; omega
              · rw [if_pos (rfl : true = true)] at hsu
                have HS := Lib.hid hsu
                clear hsu
                go_wp2_with fail
                go_roundw
                case rel => exact ⟨k + 1, by omega, by go_num, by rw [HS.out]; simp [bytes_app], hb7⟩
                case measure => simp [RowKit.intOf]; omega
          · have hPe : P.isEmpty = false := by cases P with | nil => exact absurd rfl hP | cons a b => rfl
            by_cases hQ : Q = []
            · subst hQ
              have hsu := Hsu.out
              clear Hsu
              rw [if_neg hP] at hsu
              rw [if_pos (rfl : ([] : List UInt8) = [])] at hsu
              rcases br with _ | _
              · rw [if_neg (show ¬ (false = true) by decide)] at hsu
                have HS := Lib.hid hsu
                clear hsu
                go_wp2_with fail
                go_roundw
                case rel => exact ⟨k + 1, by omega, by go_num, by rw [HS.out]; simp [bytes_app], hb7⟩
                case measure => simp [RowKit.intOf]; omega
              · rw [if_pos (rfl : true = true)] at hsu
                have HS := Lib.hid hsu
                clear hsu
                go_wp2_with fail
                go_roundw
                case rel => exact ⟨k + 1, by omega, by go_num, by rw [HS.out]; simp [bytes_app], hb7⟩
                case measure => simp [RowKit.intOf]; omega
            · have hQe : Q.isEmpty = false := by cases Q with | nil => exact absurd rfl hQ | cons a b => rfl
              have hsu := Hsu.out
              clear Hsu
              rw [if_neg hP] at hsu
              rw [if_neg hQ] at hsu
              rcases br with _ | _
              · rw [if_neg (show ¬ (false = true) by decide)] at hsu
                have HS := Lib.hid hsu
                clear hsu
                go_wp2_with fail
                go_roundw
                case rel => exact ⟨k + 1, by omega, by go_num, by rw [HS.out]; simp [bytes_app], hb7⟩
                case measure => simp [RowKit.intOf]; omega
              · rw [if_pos (rfl : true = true)] at hsu
                have HS := Lib.hid hsu
                clear hsu
                go_wp2_with fail
                go_roundw
                case rel => exact ⟨k + 1, by omega, by go_num, by rw [HS.out]; simp [bytes_app], hb7⟩
                case measure => simp [RowKit.intOf]; omega
        · rw [List.take_of_length_le (by rw [Hrl.out]; exact hge)]
          go_wp2_with fail
          go_ret2
          exact ⟨rfl, hbr⟩
end Go.Vir

/- viramaref11.Same. -/
namespace Go.Vir
open Go Go.RowKit Go.Proofs Go.Shelf
attribute [local go_sem] Oper.semAt_some

set_option maxRecDepth 100000 in
set_option maxHeartbeats 4000000 in
theorem ref_Same11 (A E : Option Addr) (n c m d : Nat) (xs ys : List RuleV) (w : World) (hx : Rls w w.heap.size A n xs) (hy : Rls w w.heap.size E m ys) (hn : n ≤ 1000000) :
    Calls Tryz.prog 38 #[.slice A n c, .slice E m d] w fun e w' => e = .returned (.bool (decide (xs = ys))) ∧ Below w.heap.size w w' := by
  have hxl := hx.len
  have hyl := hy.len
  by_cases hnm : n = m
  · subst hnm
    have Hxl := Lib.hid hxl
    have Hyl := Lib.hid hyl
    clear hxl hyl
    go_enter Tryz.func38, Tryz.ntmps38
    go_wp2
    go_loopw [5] (fun i wr => ∃ k : Nat, k ≤ n ∧ i = .int .i64 (k : Int) ∧ xs.take k = ys.take k ∧ Below w.heap.size w wr) (fun i _ => n - (RowKit.intOf i).toNat)
    case atStart => exact ⟨0, Nat.zero_le _, rfl, rfl, Below.refl _ _⟩
    case round =>
      obtain ⟨k, hk, rfl, htk, hbr⟩ := hrel
      rcases Nat.lt_or_ge k n with hlt | hge
      · obtain ⟨xb, xo, rfl, hxb, hxc⟩ := hx.at_ (by omega)
        obtain ⟨yb, yo, rfl, hyb, hyc⟩ := hy.at_ (by omega)
        have hkx : k < xs.length := by rw [Hxl.out]; exact hlt
        have hky : k < ys.length := by rw [Hyl.out]; exact hlt
        have hst : xs[k] = ys[k] → xs.take (k + 1) = ys.take (k + 1) := fun e => by
          rw [List.take_succ_eq_append_getElem hkx, List.take_succ_eq_append_getElem hky, htk, e]
        have hne : xs[k] ≠ ys[k] → xs ≠ ys := fun h e => h (by subst e; rfl)
        have Hst := Lib.hid hst
        have Hne := Lib.hid hne
        obtain ⟨Al, ml, cl, Ar, mr, cr, x0, x1, x2, x3, x4, hM⟩ := ((hxc k hkx).below hbr hxb).more hbr.size
        obtain ⟨El, nl, dl, Er, nr, dr, y0, y1, y2, y3, y4, hN⟩ := ((hyc k hky).below hbr hyb).more hbr.size
        have hxw : xb < wr.heap.size := by have := hbr.size; omega
        have hyw : yb < wr.heap.size := by have := hbr.size; omega
        clear hxc hyc hst hne htk
        generalize xs[k] = a at *
        generalize ys[k] = b at *
        have hsr := same_rule a b
        obtain ⟨sl, xl, sr, xr, br⟩ := a
        obtain ⟨sl2, xl2, sr2, xr2, br2⟩ := b
        simp only at x0 x1 x2 x3 x4 y0 y1 y2 y3 y4 hsr
        have h1 := fun W (hW : Below wr.heap.size wr W) => ref_Same sl sl2 Al El ml cl nl dl xl xl2 W ((hM.left.below hW).more hW.size) ((hN.left.below hW).more hW.size) hM.lb hN.lb
        have h2 := fun W (hW : Below wr.heap.size wr W) => ref_Same sr sr2 Ar Er mr cr nr dr xr xr2 W ((hM.right.below hW).more hW.size) ((hN.right.below hW).more hW.size) hM.rb hN.rb
        generalize sameB sl sl2 xl xl2 = s1 at *
        generalize sameB sr sr2 xr xr2 = s2 at *
        have H1 := Lib.hid h1
        have H2 := Lib.hid h2
        have Hsr := Lib.hid hsr
        have hv0 : Below wr.heap.size wr wr.drew := (Below.refl _ _).drew
        clear h1 h2 hM hN hsr
        rcases hbb : (br != br2) with _ | _
        · have hbe : (br == br2) = true := by cases br <;> cases br2 <;> first | rfl | cases hbb
          have hbq : br = br2 := by simpa using hbe
          have Hbe := Lib.hid hbe
          have Hbq := Lib.hid hbq
          clear hbe hbq hbb
          rcases s1 with _ | _
          · have h1 : decide (xs = ys) = false := decide_eq_false (Hne.out (of_decide_eq_false (by rw [Hsr.out]; simp)))
            go_upto_region 6 with fail
            refine wp_region_noPanic ?_
            refine wp_region_held_drew (S := (fun V => V.cell? ⟨xb, xo + k * 5, none⟩ = some (.bool sl) ∧ V.cell? ⟨xb, xo + k * 5 + 1, none⟩ = some (.slice Al ml cl) ∧ V.cell? ⟨xb, xo + k * 5 + 2, none⟩ = some (.bool sr) ∧ V.cell? ⟨xb, xo + k * 5 + 3, none⟩ = some (.slice Ar mr cr) ∧ V.cell? ⟨xb, xo + k * 5 + 4, none⟩ = some (.bool br) ∧ V.cell? ⟨yb, yo + k * 5, none⟩ = some (.bool sl2) ∧ V.cell? ⟨yb, yo + k * 5 + 1, none⟩ = some (.slice El nl dl) ∧ V.cell? ⟨yb, yo + k * 5 + 2, none⟩ = some (.bool sr2) ∧ V.cell? ⟨yb, yo + k * 5 + 3, none⟩ = some (.slice Er nr dr) ∧ V.cell? ⟨yb, yo + k * 5 + 4, none⟩ = some (.bool br2))) (by kernel_rfl) ⟨x0, x1, x2, x3, x4, y0, y1, y2, y3, y4⟩ (fun hHeld => ?_)
            refine wpAnyH_take (i := 0) (v := .slice (some ⟨xb, xo, none⟩) n c) rfl (by kernel_rfl) (by kernel_rfl) (by kernel_rfl) (fun _ _ _ h => h) (.inl ⟨by rfl, fun V hV => by obtain ⟨c0, c1, c2, c3, c4, c5, c6, c7, c8, c9⟩ := hV; go_simp⟩) hHeld ?_
            try simp only [Act.put, List.getElem_toArray, List.getElem_cons_zero, List.setIfInBounds_toArray, List.set_cons_zero, List.set_cons_succ]
            refine wpAnyH_take (i := 1) (v := .int .i64 (k : Int)) rfl (by kernel_rfl) (by kernel_rfl) (by kernel_rfl) (fun _ _ _ h => h) (.inl ⟨by rfl, fun V hV => by obtain ⟨c0, c1, c2, c3, c4, c5, c6, c7, c8, c9⟩ := hV; go_simp⟩) hHeld ?_
            try simp only [Act.put, List.getElem_toArray, List.getElem_cons_zero, List.getElem_cons_succ, List.setIfInBounds_toArray, List.set_cons_zero, List.set_cons_succ]
            refine wpAnyH_take (i := 2) (v := .pointer (some ⟨xb, xo + k * 5, none⟩)) rfl (by kernel_rfl) (by kernel_rfl) (by kernel_rfl) (fun _ _ _ h => h) (.inl ⟨by rfl, fun V hV => by obtain ⟨c0, c1, c2, c3, c4, c5, c6, c7, c8, c9⟩ := hV; go_simp⟩) hHeld ?_
            try simp only [Act.put, List.getElem_toArray, List.getElem_cons_zero, List.getElem_cons_succ, List.setIfInBounds_toArray, List.set_cons_zero, List.set_cons_succ]
            refine wpAnyH_take (i := 3) (v := .pointer (some ⟨xb, xo + k * 5 + 4, none⟩)) rfl (by kernel_rfl) (by kernel_rfl) (by kernel_rfl) (fun _ _ _ h => h) (.inl ⟨by rfl, fun V hV => by obtain ⟨c0, c1, c2, c3, c4, c5, c6, c7, c8, c9⟩ := hV; go_simp⟩) hHeld ?_
            try simp only [Act.put, List.getElem_toArray, List.getElem_cons_zero, List.getElem_cons_succ, List.setIfInBounds_toArray, List.set_cons_zero, List.set_cons_succ]
            refine wpAnyH_take (i := 4) (v := .bool br) rfl (by kernel_rfl) (by kernel_rfl) (by kernel_rfl) (fun _ _ _ h => h) (.inl ⟨by rfl, fun V hV => by obtain ⟨c0, c1, c2, c3, c4, c5, c6, c7, c8, c9⟩ := hV; go_simp⟩) hHeld ?_
            try simp only [Act.put, List.getElem_toArray, List.getElem_cons_zero, List.getElem_cons_succ, List.setIfInBounds_toArray, List.set_cons_zero, List.set_cons_succ]
            refine wpAnyH_take (i := 5) (v := .slice (some ⟨yb, yo, none⟩) n d) rfl (by kernel_rfl) (by kernel_rfl) (by kernel_rfl) (fun _ _ _ h => h) (.inl ⟨by rfl, fun V hV => by obtain ⟨c0, c1, c2, c3, c4, c5, c6, c7, c8, c9⟩ := hV; go_simp⟩) hHeld ?_
            try simp only [Act.put, List.getElem_toArray, List.getElem_cons_zero, List.getElem_cons_succ, List.setIfInBounds_toArray, List.set_cons_zero, List.set_cons_succ]
            refine wpAnyH_take (i := 6) (v := .int .i64 (k : Int)) rfl (by kernel_rfl) (by kernel_rfl) (by kernel_rfl) (fun _ _ _ h => h) (.inl ⟨by rfl, fun V hV => by obtain ⟨c0, c1, c2, c3, c4, c5, c6, c7, c8, c9⟩ := hV; go_simp⟩) hHeld ?_
            try simp only [Act.put, List.getElem_toArray, List.getElem_cons_zero, List.getElem_cons_succ, List.setIfInBounds_toArray, List.set_cons_zero, List.set_cons_succ]
            refine wpAnyH_take (i := 7) (v := .pointer (some ⟨yb, yo + k * 5, none⟩)) rfl (by kernel_rfl) (by kernel_rfl) (by kernel_rfl) (fun _ _ _ h => h) (.inl ⟨by rfl, fun V hV => by obtain ⟨c0, c1, c2, c3, c4, c5, c6, c7, c8, c9⟩ := hV; go_simp⟩) hHeld ?_
            try simp only [Act.put, List.getElem_toArray, List.getElem_cons_zero, List.getElem_cons_succ, List.setIfInBounds_toArray, List.set_cons_zero, List.set_cons_succ]
            refine wpAnyH_take (i := 8) (v := .pointer (some ⟨yb, yo + k * 5 + 4, none⟩)) rfl (by kernel_rfl) (by kernel_rfl) (by kernel_rfl) (fun _ _ _ h => h) (.inl ⟨by rfl, fun V hV => by obtain ⟨c0, c1, c2, c3, c4, c5, c6, c7, c8, c9⟩ := hV; go_simp⟩) hHeld ?_
            try simp only [Act.put, List.getElem_toArray, List.getElem_cons_zero, List.getElem_cons_succ, List.setIfInBounds_toArray, List.set_cons_zero, List.set_cons_succ]
            refine wpAnyH_take (i := 9) (v := .bool br2) rfl (by kernel_rfl) (by kernel_rfl) (by kernel_rfl) (fun _ _ _ h => h) (.inl ⟨by rfl, fun V hV => by obtain ⟨c0, c1, c2, c3, c4, c5, c6, c7, c8, c9⟩ := hV; go_simp⟩) hHeld ?_
            try simp only [Act.put, List.getElem_toArray, List.getElem_cons_zero, List.getElem_cons_succ, List.setIfInBounds_toArray, List.set_cons_zero, List.set_cons_succ]
            refine wpAnyH_take (i := 10) (v := .bool false) rfl (by kernel_rfl) (by kernel_rfl) (by kernel_rfl) (fun _ _ _ h => h) (.inl ⟨by rfl, fun V hV => by obtain ⟨c0, c1, c2, c3, c4, c5, c6, c7, c8, c9⟩ := hV; go_simp; exact Hbq.out⟩) hHeld ?_
            try simp only [Act.put, List.getElem_toArray, List.getElem_cons_zero, List.getElem_cons_succ, List.setIfInBounds_toArray, List.set_cons_zero, List.set_cons_succ]
            refine wpAnyH_take (i := 11) (v := .bool false) rfl (by kernel_rfl) (by kernel_rfl) (by kernel_rfl) (fun _ _ _ h => h) (.inl ⟨by rfl, fun V hV => by obtain ⟨c0, c1, c2, c3, c4, c5, c6, c7, c8, c9⟩ := hV; go_simp⟩) hHeld ?_
            try simp only [Act.put, List.getElem_toArray, List.getElem_cons_zero, List.getElem_cons_succ, List.setIfInBounds_toArray, List.set_cons_zero, List.set_cons_succ]
            refine wpAnyH_take (i := 12) (v := .slice (some ⟨xb, xo, none⟩) n c) rfl (by kernel_rfl) (by kernel_rfl) (by kernel_rfl) (fun _ _ _ h => h) (.inl ⟨by rfl, fun V hV => by obtain ⟨c0, c1, c2, c3, c4, c5, c6, c7, c8, c9⟩ := hV; go_simp⟩) hHeld ?_
            try simp only [Act.put, List.getElem_toArray, List.getElem_cons_zero, List.getElem_cons_succ, List.setIfInBounds_toArray, List.set_cons_zero, List.set_cons_succ]
            refine wpAnyH_take (i := 13) (v := .int .i64 (k : Int)) rfl (by kernel_rfl) (by kernel_rfl) (by kernel_rfl) (fun _ _ _ h => h) (.inl ⟨by rfl, fun V hV => by obtain ⟨c0, c1, c2, c3, c4, c5, c6, c7, c8, c9⟩ := hV; go_simp⟩) hHeld ?_
            try simp only [Act.put, List.getElem_toArray, List.getElem_cons_zero, List.getElem_cons_succ, List.setIfInBounds_toArray, List.set_cons_zero, List.set_cons_succ]
            refine wpAnyH_take (i := 14) (v := .pointer (some ⟨xb, xo + k * 5, none⟩)) rfl (by kernel_rfl) (by kernel_rfl) (by kernel_rfl) (fun _ _ _ h => h) (.inl ⟨by rfl, fun V hV => by obtain ⟨c0, c1, c2, c3, c4, c5, c6, c7, c8, c9⟩ := hV; go_simp⟩) hHeld ?_
            try simp only [Act.put, List.getElem_toArray, List.getElem_cons_zero, List.getElem_cons_succ, List.setIfInBounds_toArray, List.set_cons_zero, List.set_cons_succ]
            refine wpAnyH_take (i := 15) (v := .pointer (some ⟨xb, xo + k * 5, none⟩)) rfl (by kernel_rfl) (by kernel_rfl) (by kernel_rfl) (fun _ _ _ h => h) (.inl ⟨by rfl, fun V hV => by obtain ⟨c0, c1, c2, c3, c4, c5, c6, c7, c8, c9⟩ := hV; go_simp⟩) hHeld ?_
            try simp only [Act.put, List.getElem_toArray, List.getElem_cons_zero, List.getElem_cons_succ, List.setIfInBounds_toArray, List.set_cons_zero, List.set_cons_succ]
            refine wpAnyH_take (i := 16) (v := .agg #[.bool sl, .slice Al ml cl]) rfl (by kernel_rfl) (by kernel_rfl) (by kernel_rfl) (fun _ _ _ h => h) (.inl ⟨by rfl, fun V hV => by obtain ⟨c0, c1, c2, c3, c4, c5, c6, c7, c8, c9⟩ := hV; go_simp⟩) hHeld ?_
            try simp only [Act.put, List.getElem_toArray, List.getElem_cons_zero, List.getElem_cons_succ, List.setIfInBounds_toArray, List.set_cons_zero, List.set_cons_succ]
            refine wpAnyH_take (i := 17) (v := .slice (some ⟨yb, yo, none⟩) n d) rfl (by kernel_rfl) (by kernel_rfl) (by kernel_rfl) (fun _ _ _ h => h) (.inl ⟨by rfl, fun V hV => by obtain ⟨c0, c1, c2, c3, c4, c5, c6, c7, c8, c9⟩ := hV; go_simp⟩) hHeld ?_
            try simp only [Act.put, List.getElem_toArray, List.getElem_cons_zero, List.getElem_cons_succ, List.setIfInBounds_toArray, List.set_cons_zero, List.set_cons_succ]
            refine wpAnyH_take (i := 18) (v := .int .i64 (k : Int)) rfl (by kernel_rfl) (by kernel_rfl) (by kernel_rfl) (fun _ _ _ h => h) (.inl ⟨by rfl, fun V hV => by obtain ⟨c0, c1, c2, c3, c4, c5, c6, c7, c8, c9⟩ := hV; go_simp⟩) hHeld ?_
            try simp only [Act.put, List.getElem_toArray, List.getElem_cons_zero, List.getElem_cons_succ, List.setIfInBounds_toArray, List.set_cons_zero, List.set_cons_succ]
            refine wpAnyH_take (i := 19) (v := .pointer (some ⟨yb, yo + k * 5, none⟩)) rfl (by kernel_rfl) (by kernel_rfl) (by kernel_rfl) (fun _ _ _ h => h) (.inl ⟨by rfl, fun V hV => by obtain ⟨c0, c1, c2, c3, c4, c5, c6, c7, c8, c9⟩ := hV; go_simp⟩) hHeld ?_
            try simp only [Act.put, List.getElem_toArray, List.getElem_cons_zero, List.getElem_cons_succ, List.setIfInBounds_toArray, List.set_cons_zero, List.set_cons_succ]
            refine wpAnyH_take (i := 20) (v := .pointer (some ⟨yb, yo + k * 5, none⟩)) rfl (by kernel_rfl) (by kernel_rfl) (by kernel_rfl) (fun _ _ _ h => h) (.inl ⟨by rfl, fun V hV => by obtain ⟨c0, c1, c2, c3, c4, c5, c6, c7, c8, c9⟩ := hV; go_simp⟩) hHeld ?_
            try simp only [Act.put, List.getElem_toArray, List.getElem_cons_zero, List.getElem_cons_succ, List.setIfInBounds_toArray, List.set_cons_zero, List.set_cons_succ]
            refine wpAnyH_take (i := 21) (v := .agg #[.bool sl2, .slice El nl dl]) rfl (by kernel_rfl) (by kernel_rfl) (by kernel_rfl) (fun _ _ _ h => h) (.inl ⟨by rfl, fun V hV => by obtain ⟨c0, c1, c2, c3, c4, c5, c6, c7, c8, c9⟩ := hV; go_simp⟩) hHeld ?_
            try simp only [Act.put, List.getElem_toArray, List.getElem_cons_zero, List.getElem_cons_succ, List.setIfInBounds_toArray, List.set_cons_zero, List.set_cons_succ]
            refine wpAnyH_ready (rs := [22]) (by kernel_rfl) (by simp) ?_
            refine AllReadyH.cons rfl (fun K hK => ?_) AllReadyH.nil
            go_simp
            refine (H1.out _ hv0).mono ?_
            rintro e v1 ⟨rfl, hc⟩
            have hv1 : Below wr.heap.size wr v1 := hv0.trans (hc.mono hv0.size)
            clear hc
            have qv10 := (cellOf hv1 hxw).trans x0
            have qv11 := (cellOf hv1 hxw).trans x1
            have qv12 := (cellOf hv1 hxw).trans x2
            have qv13 := (cellOf hv1 hxw).trans x3
            have qv14 := (cellOf hv1 hxw).trans x4
            have rv10 := (cellOf hv1 hyw).trans y0
            have rv11 := (cellOf hv1 hyw).trans y1
            have rv12 := (cellOf hv1 hyw).trans y2
            have rv13 := (cellOf hv1 hyw).trans y3
            have rv14 := (cellOf hv1 hyw).trans y4
            refine hK.out _ _ ⟨qv10, qv11, qv12, qv13, qv14, rv10, rv11, rv12, rv13, rv14⟩ (fun hHeld => ?_)
            clear hK K
            try simp only [Act.put, List.getElem_toArray, List.getElem_cons_zero, List.getElem_cons_succ, List.setIfInBounds_toArray, List.set_cons_zero, List.set_cons_succ]
            refine wpAnyH_take (i := 23) (v := .bool true) rfl (by kernel_rfl) (by kernel_rfl) (by kernel_rfl) (fun _ _ _ h => h) (.inl ⟨by rfl, fun V hV => by obtain ⟨c0, c1, c2, c3, c4, c5, c6, c7, c8, c9⟩ := hV; go_simp⟩) hHeld ?_
            try simp only [Act.put, List.getElem_toArray, List.getElem_cons_zero, List.getElem_cons_succ, List.setIfInBounds_toArray, List.set_cons_zero, List.set_cons_succ]
            refine wpAnyH_take (i := 24) (v := .bool true) rfl (by kernel_rfl) (by kernel_rfl) (by kernel_rfl) (fun _ _ _ h => h) (.inl ⟨by rfl, fun V hV => by obtain ⟨c0, c1, c2, c3, c4, c5, c6, c7, c8, c9⟩ := hV; go_simp⟩) hHeld ?_
            try simp only [Act.put, List.getElem_toArray, List.getElem_cons_zero, List.getElem_cons_succ, List.setIfInBounds_toArray, List.set_cons_zero, List.set_cons_succ]
            refine wpAnyH_take (i := 25) (v := .bool true) rfl (by kernel_rfl) (by kernel_rfl) (by kernel_rfl) (fun _ _ _ h => h) (.inl ⟨by rfl, fun V hV => by obtain ⟨c0, c1, c2, c3, c4, c5, c6, c7, c8, c9⟩ := hV; go_simp⟩) hHeld ?_
            try simp only [Act.put, List.getElem_toArray, List.getElem_cons_zero, List.getElem_cons_succ, List.setIfInBounds_toArray, List.set_cons_zero, List.set_cons_succ]
            refine wpAnyH_take (i := 26) (v := undef) rfl (by kernel_rfl) (by kernel_rfl) (by kernel_rfl) (fun _ _ _ h => h) (.inr ⟨by rfl, rfl⟩) hHeld ?_
            try simp only [Act.put, List.getElem_toArray, List.getElem_cons_zero, List.getElem_cons_succ, List.setIfInBounds_toArray, List.set_cons_zero, List.set_cons_succ]
            refine wpAnyH_take (i := 27) (v := undef) rfl (by kernel_rfl) (by kernel_rfl) (by kernel_rfl) (fun _ _ _ h => h) (.inr ⟨by rfl, rfl⟩) hHeld ?_
            try simp only [Act.put, List.getElem_toArray, List.getElem_cons_zero, List.getElem_cons_succ, List.setIfInBounds_toArray, List.set_cons_zero, List.set_cons_succ]
            refine wpAnyH_take (i := 28) (v := undef) rfl (by kernel_rfl) (by kernel_rfl) (by kernel_rfl) (fun _ _ _ h => h) (.inr ⟨by rfl, rfl⟩) hHeld ?_
            try simp only [Act.put, List.getElem_toArray, List.getElem_cons_zero, List.getElem_cons_succ, List.setIfInBounds_toArray, List.set_cons_zero, List.set_cons_succ]
            refine wpAnyH_take (i := 29) (v := undef) rfl (by kernel_rfl) (by kernel_rfl) (by kernel_rfl) (fun _ _ _ h => h) (.inr ⟨by rfl, rfl⟩) hHeld ?_
            try simp only [Act.put, List.getElem_toArray, List.getElem_cons_zero, List.getElem_cons_succ, List.setIfInBounds_toArray, List.set_cons_zero, List.set_cons_succ]
            refine wpAnyH_take (i := 30) (v := undef) rfl (by kernel_rfl) (by kernel_rfl) (by kernel_rfl) (fun _ _ _ h => h) (.inr ⟨by rfl, rfl⟩) hHeld ?_
            try simp only [Act.put, List.getElem_toArray, List.getElem_cons_zero, List.getElem_cons_succ, List.setIfInBounds_toArray, List.set_cons_zero, List.set_cons_succ]
            refine wpAnyH_take (i := 31) (v := undef) rfl (by kernel_rfl) (by kernel_rfl) (by kernel_rfl) (fun _ _ _ h => h) (.inr ⟨by rfl, rfl⟩) hHeld ?_
            try simp only [Act.put, List.getElem_toArray, List.getElem_cons_zero, List.getElem_cons_succ, List.setIfInBounds_toArray, List.set_cons_zero, List.set_cons_succ]
            refine wpAnyH_take (i := 32) (v := undef) rfl (by kernel_rfl) (by kernel_rfl) (by kernel_rfl) (fun _ _ _ h => h) (.inr ⟨by rfl, rfl⟩) hHeld ?_
            try simp only [Act.put, List.getElem_toArray, List.getElem_cons_zero, List.getElem_cons_succ, List.setIfInBounds_toArray, List.set_cons_zero, List.set_cons_succ]
            refine wpAnyH_take (i := 33) (v := undef) rfl (by kernel_rfl) (by kernel_rfl) (by kernel_rfl) (fun _ _ _ h => h) (.inr ⟨by rfl, rfl⟩) hHeld ?_
            try simp only [Act.put, List.getElem_toArray, List.getElem_cons_zero, List.getElem_cons_succ, List.setIfInBounds_toArray, List.set_cons_zero, List.set_cons_succ]
            refine wpAnyH_take (i := 34) (v := undef) rfl (by kernel_rfl) (by kernel_rfl) (by kernel_rfl) (fun _ _ _ h => h) (.inr ⟨by rfl, rfl⟩) hHeld ?_
            try simp only [Act.put, List.getElem_toArray, List.getElem_cons_zero, List.getElem_cons_succ, List.setIfInBounds_toArray, List.set_cons_zero, List.set_cons_succ]
            refine wpAnyH_take (i := 35) (v := undef) rfl (by kernel_rfl) (by kernel_rfl) (by kernel_rfl) (fun _ _ _ h => h) (.inr ⟨by rfl, rfl⟩) hHeld ?_
            try simp only [Act.put, List.getElem_toArray, List.getElem_cons_zero, List.getElem_cons_succ, List.setIfInBounds_toArray, List.set_cons_zero, List.set_cons_succ]
            refine wpAnyH_ready (rs := [36]) (by kernel_rfl) (by simp) ?_
            refine AllReadyH.cons rfl (fun K hK => ?_) AllReadyH.nil
            go_simp
            refine hK.out _ _ hHeld (fun hHeld => ?_)
            clear hK K
            try simp only [Act.put, List.getElem_toArray, List.getElem_cons_zero, List.getElem_cons_succ, List.setIfInBounds_toArray, List.set_cons_zero, List.set_cons_succ]
            refine wpAnyH_take (i := 37) (v := undef) rfl (by kernel_rfl) (by kernel_rfl) (by kernel_rfl) (fun _ _ _ h => h) (.inr ⟨by rfl, rfl⟩) hHeld ?_
            try simp only [Act.put, List.getElem_toArray, List.getElem_cons_zero, List.getElem_cons_succ, List.setIfInBounds_toArray, List.set_cons_zero, List.set_cons_succ]
            refine wpAnyH_take (i := 38) (v := .bool true) rfl (by kernel_rfl) (by kernel_rfl) (by kernel_rfl) (fun _ _ _ h => h) (.inl ⟨by rfl, fun V hV => by obtain ⟨c0, c1, c2, c3, c4, c5, c6, c7, c8, c9⟩ := hV; go_simp⟩) hHeld ?_
            try simp only [Act.put, List.getElem_toArray, List.getElem_cons_zero, List.getElem_cons_succ, List.setIfInBounds_toArray, List.set_cons_zero, List.set_cons_succ]
            refine wpAnyH_done (by kernel_rfl) ?_ _
            refine NoPanic.normal ?_
            have H1x := Lib.hid h1
            clear h1
            go_wp2_with fail
            go_ret
            exact ⟨ret_bool H1x.out.symm, hbr.trans (hv1.mono hbr.size)⟩
          · go_upto_region 6 with fail
            refine wp_region_noPanic ?_
            refine wp_region_held_drew (S := (fun V => V.cell? ⟨xb, xo + k * 5, none⟩ = some (.bool sl) ∧ V.cell? ⟨xb, xo + k * 5 + 1, none⟩ = some (.slice Al ml cl) ∧ V.cell? ⟨xb, xo + k * 5 + 2, none⟩ = some (.bool sr) ∧ V.cell? ⟨xb, xo + k * 5 + 3, none⟩ = some (.slice Ar mr cr) ∧ V.cell? ⟨xb, xo + k * 5 + 4, none⟩ = some (.bool br) ∧ V.cell? ⟨yb, yo + k * 5, none⟩ = some (.bool sl2) ∧ V.cell? ⟨yb, yo + k * 5 + 1, none⟩ = some (.slice El nl dl) ∧ V.cell? ⟨yb, yo + k * 5 + 2, none⟩ = some (.bool sr2) ∧ V.cell? ⟨yb, yo + k * 5 + 3, none⟩ = some (.slice Er nr dr) ∧ V.cell? ⟨yb, yo + k * 5 + 4, none⟩ = some (.bool br2))) (by kernel_rfl) ⟨x0, x1, x2, x3, x4, y0, y1, y2, y3, y4⟩ (fun hHeld => ?_)
            refine wpAnyH_take (i := 0) (v := .slice (some ⟨xb, xo, none⟩) n c) rfl (by kernel_rfl) (by kernel_rfl) (by kernel_rfl) (fun _ _ _ h => h) (.inl ⟨by rfl, fun V hV => by obtain ⟨c0, c1, c2, c3, c4, c5, c6, c7, c8, c9⟩ := hV; go_simp⟩) hHeld ?_
            try simp only [Act.put, List.getElem_toArray, List.getElem_cons_zero, List.setIfInBounds_toArray, List.set_cons_zero, List.set_cons_succ]
            refine wpAnyH_take (i := 1) (v := .int .i64 (k : Int)) rfl (by kernel_rfl) (by kernel_rfl) (by kernel_rfl) (fun _ _ _ h => h) (.inl ⟨by rfl, fun V hV => by obtain ⟨c0, c1, c2, c3, c4, c5, c6, c7, c8, c9⟩ := hV; go_simp⟩) hHeld ?_
            try simp only [Act.put, List.getElem_toArray, List.getElem_cons_zero, List.getElem_cons_succ, List.setIfInBounds_toArray, List.set_cons_zero, List.set_cons_succ]
            refine wpAnyH_take (i := 2) (v := .pointer (some ⟨xb, xo + k * 5, none⟩)) rfl (by kernel_rfl) (by kernel_rfl) (by kernel_rfl) (fun _ _ _ h => h) (.inl ⟨by rfl, fun V hV => by obtain ⟨c0, c1, c2, c3, c4, c5, c6, c7, c8, c9⟩ := hV; go_simp⟩) hHeld ?_
            try simp only [Act.put, List.getElem_toArray, List.getElem_cons_zero, List.getElem_cons_succ, List.setIfInBounds_toArray, List.set_cons_zero, List.set_cons_succ]
            refine wpAnyH_take (i := 3) (v := .pointer (some ⟨xb, xo + k * 5 + 4, none⟩)) rfl (by kernel_rfl) (by kernel_rfl) (by kernel_rfl) (fun _ _ _ h => h) (.inl ⟨by rfl, fun V hV => by obtain ⟨c0, c1, c2, c3, c4, c5, c6, c7, c8, c9⟩ := hV; go_simp⟩) hHeld ?_
            try simp only [Act.put, List.getElem_toArray, List.getElem_cons_zero, List.getElem_cons_succ, List.setIfInBounds_toArray, List.set_cons_zero, List.set_cons_succ]
            refine wpAnyH_take (i := 4) (v := .bool br) rfl (by kernel_rfl) (by kernel_rfl) (by kernel_rfl) (fun _ _ _ h => h) (.inl ⟨by rfl, fun V hV => by obtain ⟨c0, c1, c2, c3, c4, c5, c6, c7, c8, c9⟩ := hV; go_simp⟩) hHeld ?_
            try simp only [Act.put, List.getElem_toArray, List.getElem_cons_zero, List.getElem_cons_succ, List.setIfInBounds_toArray, List.set_cons_zero, List.set_cons_succ]
            refine wpAnyH_take (i := 5) (v := .slice (some ⟨yb, yo, none⟩) n d) rfl (by kernel_rfl) (by kernel_rfl) (by kernel_rfl) (fun _ _ _ h => h) (.inl ⟨by rfl, fun V hV => by obtain ⟨c0, c1, c2, c3, c4, c5, c6, c7, c8, c9⟩ := hV; go_simp⟩) hHeld ?_
            try simp only [Act.put, List.getElem_toArray, List.getElem_cons_zero, List.getElem_cons_succ, List.setIfInBounds_toArray, List.set_cons_zero, List.set_cons_succ]
            refine wpAnyH_take (i := 6) (v := .int .i64 (k : Int)) rfl (by kernel_rfl) (by kernel_rfl) (by kernel_rfl) (fun _ _ _ h => h) (.inl ⟨by rfl, fun V hV => by obtain ⟨c0, c1, c2, c3, c4, c5, c6, c7, c8, c9⟩ := hV; go_simp⟩) hHeld ?_
            try simp only [Act.put, List.getElem_toArray, List.getElem_cons_zero, List.getElem_cons_succ, List.setIfInBounds_toArray, List.set_cons_zero, List.set_cons_succ]
            refine wpAnyH_take (i := 7) (v := .pointer (some ⟨yb, yo + k * 5, none⟩)) rfl (by kernel_rfl) (by kernel_rfl) (by kernel_rfl) (fun _ _ _ h => h) (.inl ⟨by rfl, fun V hV => by obtain ⟨c0, c1, c2, c3, c4, c5, c6, c7, c8, c9⟩ := hV; go_simp⟩) hHeld ?_
            try simp only [Act.put, List.getElem_toArray, List.getElem_cons_zero, List.getElem_cons_succ, List.setIfInBounds_toArray, List.set_cons_zero, List.set_cons_succ]
            refine wpAnyH_take (i := 8) (v := .pointer (some ⟨yb, yo + k * 5 + 4, none⟩)) rfl (by kernel_rfl) (by kernel_rfl) (by kernel_rfl) (fun _ _ _ h => h) (.inl ⟨by rfl, fun V hV => by obtain ⟨c0, c1, c2, c3, c4, c5, c6, c7, c8, c9⟩ := hV; go_simp⟩) hHeld ?_
            try simp only [Act.put, List.getElem_toArray, List.getElem_cons_zero, List.getElem_cons_succ, List.setIfInBounds_toArray, List.set_cons_zero, List.set_cons_succ]
            refine wpAnyH_take (i := 9) (v := .bool br2) rfl (by kernel_rfl) (by kernel_rfl) (by kernel_rfl) (fun _ _ _ h => h) (.inl ⟨by rfl, fun V hV => by obtain ⟨c0, c1, c2, c3, c4, c5, c6, c7, c8, c9⟩ := hV; go_simp⟩) hHeld ?_
            try simp only [Act.put, List.getElem_toArray, List.getElem_cons_zero, List.getElem_cons_succ, List.setIfInBounds_toArray, List.set_cons_zero, List.set_cons_succ]
            refine wpAnyH_take (i := 10) (v := .bool false) rfl (by kernel_rfl) (by kernel_rfl) (by kernel_rfl) (fun _ _ _ h => h) (.inl ⟨by rfl, fun V hV => by obtain ⟨c0, c1, c2, c3, c4, c5, c6, c7, c8, c9⟩ := hV; go_simp; exact Hbq.out⟩) hHeld ?_
            try simp only [Act.put, List.getElem_toArray, List.getElem_cons_zero, List.getElem_cons_succ, List.setIfInBounds_toArray, List.set_cons_zero, List.set_cons_succ]
            refine wpAnyH_take (i := 11) (v := .bool false) rfl (by kernel_rfl) (by kernel_rfl) (by kernel_rfl) (fun _ _ _ h => h) (.inl ⟨by rfl, fun V hV => by obtain ⟨c0, c1, c2, c3, c4, c5, c6, c7, c8, c9⟩ := hV; go_simp⟩) hHeld ?_
            try simp only [Act.put, List.getElem_toArray, List.getElem_cons_zero, List.getElem_cons_succ, List.setIfInBounds_toArray, List.set_cons_zero, List.set_cons_succ]
            refine wpAnyH_take (i := 12) (v := .slice (some ⟨xb, xo, none⟩) n c) rfl (by kernel_rfl) (by kernel_rfl) (by kernel_rfl) (fun _ _ _ h => h) (.inl ⟨by rfl, fun V hV => by obtain ⟨c0, c1, c2, c3, c4, c5, c6, c7, c8, c9⟩ := hV; go_simp⟩) hHeld ?_
            try simp only [Act.put, List.getElem_toArray, List.getElem_cons_zero, List.getElem_cons_succ, List.setIfInBounds_toArray, List.set_cons_zero, List.set_cons_succ]
            refine wpAnyH_take (i := 13) (v := .int .i64 (k : Int)) rfl (by kernel_rfl) (by kernel_rfl) (by kernel_rfl) (fun _ _ _ h => h) (.inl ⟨by rfl, fun V hV => by obtain ⟨c0, c1, c2, c3, c4, c5, c6, c7, c8, c9⟩ := hV; go_simp⟩) hHeld ?_
            try simp only [Act.put, List.getElem_toArray, List.getElem_cons_zero, List.getElem_cons_succ, List.setIfInBounds_toArray, List.set_cons_zero, List.set_cons_succ]
            refine wpAnyH_take (i := 14) (v := .pointer (some ⟨xb, xo + k * 5, none⟩)) rfl (by kernel_rfl) (by kernel_rfl) (by kernel_rfl) (fun _ _ _ h => h) (.inl ⟨by rfl, fun V hV => by obtain ⟨c0, c1, c2, c3, c4, c5, c6, c7, c8, c9⟩ := hV; go_simp⟩) hHeld ?_
            try simp only [Act.put, List.getElem_toArray, List.getElem_cons_zero, List.getElem_cons_succ, List.setIfInBounds_toArray, List.set_cons_zero, List.set_cons_succ]
            refine wpAnyH_take (i := 15) (v := .pointer (some ⟨xb, xo + k * 5, none⟩)) rfl (by kernel_rfl) (by kernel_rfl) (by kernel_rfl) (fun _ _ _ h => h) (.inl ⟨by rfl, fun V hV => by obtain ⟨c0, c1, c2, c3, c4, c5, c6, c7, c8, c9⟩ := hV; go_simp⟩) hHeld ?_
            try simp only [Act.put, List.getElem_toArray, List.getElem_cons_zero, List.getElem_cons_succ, List.setIfInBounds_toArray, List.set_cons_zero, List.set_cons_succ]
            refine wpAnyH_take (i := 16) (v := .agg #[.bool sl, .slice Al ml cl]) rfl (by kernel_rfl) (by kernel_rfl) (by kernel_rfl) (fun _ _ _ h => h) (.inl ⟨by rfl, fun V hV => by obtain ⟨c0, c1, c2, c3, c4, c5, c6, c7, c8, c9⟩ := hV; go_simp⟩) hHeld ?_
            try simp only [Act.put, List.getElem_toArray, List.getElem_cons_zero, List.getElem_cons_succ, List.setIfInBounds_toArray, List.set_cons_zero, List.set_cons_succ]
            refine wpAnyH_take (i := 17) (v := .slice (some ⟨yb, yo, none⟩) n d) rfl (by kernel_rfl) (by kernel_rfl) (by kernel_rfl) (fun _ _ _ h => h) (.inl ⟨by rfl, fun V hV => by obtain ⟨c0, c1, c2, c3, c4, c5, c6, c7, c8, c9⟩ := hV; go_simp⟩) hHeld ?_
            try simp only [Act.put, List.getElem_toArray, List.getElem_cons_zero, List.getElem_cons_succ, List.setIfInBounds_toArray, List.set_cons_zero, List.set_cons_succ]
            refine wpAnyH_take (i := 18) (v := .int .i64 (k : Int)) rfl (by kernel_rfl) (by kernel_rfl) (by kernel_rfl) (fun _ _ _ h => h) (.inl ⟨by rfl, fun V hV => by obtain ⟨c0, c1, c2, c3, c4, c5, c6, c7, c8, c9⟩ := hV; go_simp⟩) hHeld ?_
            try simp only [Act.put, List.getElem_toArray, List.getElem_cons_zero, List.getElem_cons_succ, List.setIfInBounds_toArray, List.set_cons_zero, List.set_cons_succ]
            refine wpAnyH_take (i := 19) (v := .pointer (some ⟨yb, yo + k * 5, none⟩)) rfl (by kernel_rfl) (by kernel_rfl) (by kernel_rfl) (fun _ _ _ h => h) (.inl ⟨by rfl, fun V hV => by obtain ⟨c0, c1, c2, c3, c4, c5, c6, c7, c8, c9⟩ := hV; go_simp⟩) hHeld ?_
            try simp only [Act.put, List.getElem_toArray, List.getElem_cons_zero, List.getElem_cons_succ, List.setIfInBounds_toArray, List.set_cons_zero, List.set_cons_succ]
            refine wpAnyH_take (i := 20) (v := .pointer (some ⟨yb, yo + k * 5, none⟩)) rfl (by kernel_rfl) (by kernel_rfl) (by kernel_rfl) (fun _ _ _ h => h) (.inl ⟨by rfl, fun V hV => by obtain ⟨c0, c1, c2, c3, c4, c5, c6, c7, c8, c9⟩ := hV; go_simp⟩) hHeld ?_
            try simp only [Act.put, List.getElem_toArray, List.getElem_cons_zero, List.getElem_cons_succ, List.setIfInBounds_toArray, List.set_cons_zero, List.set_cons_succ]
            refine wpAnyH_take (i := 21) (v := .agg #[.bool sl2, .slice El nl dl]) rfl (by kernel_rfl) (by kernel_rfl) (by kernel_rfl) (fun _ _ _ h => h) (.inl ⟨by rfl, fun V hV => by obtain ⟨c0, c1, c2, c3, c4, c5, c6, c7, c8, c9⟩ := hV; go_simp⟩) hHeld ?_
            try simp only [Act.put, List.getElem_toArray, List.getElem_cons_zero, List.getElem_cons_succ, List.setIfInBounds_toArray, List.set_cons_zero, List.set_cons_succ]
            refine wpAnyH_ready (rs := [22]) (by kernel_rfl) (by simp) ?_
            refine AllReadyH.cons rfl (fun K hK => ?_) AllReadyH.nil
            go_simp
            refine (H1.out _ hv0).mono ?_
            rintro e v1 ⟨rfl, hc⟩
            have hv1 : Below wr.heap.size wr v1 := hv0.trans (hc.mono hv0.size)
            clear hc
            have qv10 := (cellOf hv1 hxw).trans x0
            have qv11 := (cellOf hv1 hxw).trans x1
            have qv12 := (cellOf hv1 hxw).trans x2
            have qv13 := (cellOf hv1 hxw).trans x3
            have qv14 := (cellOf hv1 hxw).trans x4
            have rv10 := (cellOf hv1 hyw).trans y0
            have rv11 := (cellOf hv1 hyw).trans y1
            have rv12 := (cellOf hv1 hyw).trans y2
            have rv13 := (cellOf hv1 hyw).trans y3
            have rv14 := (cellOf hv1 hyw).trans y4
            refine hK.out _ _ ⟨qv10, qv11, qv12, qv13, qv14, rv10, rv11, rv12, rv13, rv14⟩ (fun hHeld => ?_)
            clear hK K
            try simp only [Act.put, List.getElem_toArray, List.getElem_cons_zero, List.getElem_cons_succ, List.setIfInBounds_toArray, List.set_cons_zero, List.set_cons_succ]
            refine wpAnyH_take (i := 23) (v := .bool false) rfl (by kernel_rfl) (by kernel_rfl) (by kernel_rfl) (fun _ _ _ h => h) (.inl ⟨by rfl, fun V hV => by obtain ⟨c0, c1, c2, c3, c4, c5, c6, c7, c8, c9⟩ := hV; go_simp⟩) hHeld ?_
            try simp only [Act.put, List.getElem_toArray, List.getElem_cons_zero, List.getElem_cons_succ, List.setIfInBounds_toArray, List.set_cons_zero, List.set_cons_succ]
            refine wpAnyH_take (i := 24) (v := .bool false) rfl (by kernel_rfl) (by kernel_rfl) (by kernel_rfl) (fun _ _ _ h => h) (.inl ⟨by rfl, fun V hV => by obtain ⟨c0, c1, c2, c3, c4, c5, c6, c7, c8, c9⟩ := hV; go_simp⟩) hHeld ?_
            try simp only [Act.put, List.getElem_toArray, List.getElem_cons_zero, List.getElem_cons_succ, List.setIfInBounds_toArray, List.set_cons_zero, List.set_cons_succ]
            refine wpAnyH_take (i := 25) (v := .bool false) rfl (by kernel_rfl) (by kernel_rfl) (by kernel_rfl) (fun _ _ _ h => h) (.inl ⟨by rfl, fun V hV => by obtain ⟨c0, c1, c2, c3, c4, c5, c6, c7, c8, c9⟩ := hV; go_simp⟩) hHeld ?_
            try simp only [Act.put, List.getElem_toArray, List.getElem_cons_zero, List.getElem_cons_succ, List.setIfInBounds_toArray, List.set_cons_zero, List.set_cons_succ]
            refine wpAnyH_take (i := 26) (v := .slice (some ⟨xb, xo, none⟩) n c) rfl (by kernel_rfl) (by kernel_rfl) (by kernel_rfl) (fun _ _ _ h => h) (.inl ⟨by rfl, fun V hV => by obtain ⟨c0, c1, c2, c3, c4, c5, c6, c7, c8, c9⟩ := hV; go_simp⟩) hHeld ?_
            try simp only [Act.put, List.getElem_toArray, List.getElem_cons_zero, List.getElem_cons_succ, List.setIfInBounds_toArray, List.set_cons_zero, List.set_cons_succ]
            refine wpAnyH_take (i := 27) (v := .int .i64 (k : Int)) rfl (by kernel_rfl) (by kernel_rfl) (by kernel_rfl) (fun _ _ _ h => h) (.inl ⟨by rfl, fun V hV => by obtain ⟨c0, c1, c2, c3, c4, c5, c6, c7, c8, c9⟩ := hV; go_simp⟩) hHeld ?_
            try simp only [Act.put, List.getElem_toArray, List.getElem_cons_zero, List.getElem_cons_succ, List.setIfInBounds_toArray, List.set_cons_zero, List.set_cons_succ]
            refine wpAnyH_take (i := 28) (v := .pointer (some ⟨xb, xo + k * 5, none⟩)) rfl (by kernel_rfl) (by kernel_rfl) (by kernel_rfl) (fun _ _ _ h => h) (.inl ⟨by rfl, fun V hV => by obtain ⟨c0, c1, c2, c3, c4, c5, c6, c7, c8, c9⟩ := hV; go_simp⟩) hHeld ?_
            try simp only [Act.put, List.getElem_toArray, List.getElem_cons_zero, List.getElem_cons_succ, List.setIfInBounds_toArray, List.set_cons_zero, List.set_cons_succ]
            refine wpAnyH_take (i := 29) (v := .pointer (some ⟨xb, xo + k * 5 + 2, none⟩)) rfl (by kernel_rfl) (by kernel_rfl) (by kernel_rfl) (fun _ _ _ h => h) (.inl ⟨by rfl, fun V hV => by obtain ⟨c0, c1, c2, c3, c4, c5, c6, c7, c8, c9⟩ := hV; go_simp⟩) hHeld ?_
            try simp only [Act.put, List.getElem_toArray, List.getElem_cons_zero, List.getElem_cons_succ, List.setIfInBounds_toArray, List.set_cons_zero, List.set_cons_succ]
            refine wpAnyH_take (i := 30) (v := .agg #[.bool sr, .slice Ar mr cr]) rfl (by kernel_rfl) (by kernel_rfl) (by kernel_rfl) (fun _ _ _ h => h) (.inl ⟨by rfl, fun V hV => by obtain ⟨c0, c1, c2, c3, c4, c5, c6, c7, c8, c9⟩ := hV; go_simp⟩) hHeld ?_
            try simp only [Act.put, List.getElem_toArray, List.getElem_cons_zero, List.getElem_cons_succ, List.setIfInBounds_toArray, List.set_cons_zero, List.set_cons_succ]
            refine wpAnyH_take (i := 31) (v := .slice (some ⟨yb, yo, none⟩) n d) rfl (by kernel_rfl) (by kernel_rfl) (by kernel_rfl) (fun _ _ _ h => h) (.inl ⟨by rfl, fun V hV => by obtain ⟨c0, c1, c2, c3, c4, c5, c6, c7, c8, c9⟩ := hV; go_simp⟩) hHeld ?_
            try simp only [Act.put, List.getElem_toArray, List.getElem_cons_zero, List.getElem_cons_succ, List.setIfInBounds_toArray, List.set_cons_zero, List.set_cons_succ]
            refine wpAnyH_take (i := 32) (v := .int .i64 (k : Int)) rfl (by kernel_rfl) (by kernel_rfl) (by kernel_rfl) (fun _ _ _ h => h) (.inl ⟨by rfl, fun V hV => by obtain ⟨c0, c1, c2, c3, c4, c5, c6, c7, c8, c9⟩ := hV; go_simp⟩) hHeld ?_
            try simp only [Act.put, List.getElem_toArray, List.getElem_cons_zero, List.getElem_cons_succ, List.setIfInBounds_toArray, List.set_cons_zero, List.set_cons_succ]
            refine wpAnyH_take (i := 33) (v := .pointer (some ⟨yb, yo + k * 5, none⟩)) rfl (by kernel_rfl) (by kernel_rfl) (by kernel_rfl) (fun _ _ _ h => h) (.inl ⟨by rfl, fun V hV => by obtain ⟨c0, c1, c2, c3, c4, c5, c6, c7, c8, c9⟩ := hV; go_simp⟩) hHeld ?_
            try simp only [Act.put, List.getElem_toArray, List.getElem_cons_zero, List.getElem_cons_succ, List.setIfInBounds_toArray, List.set_cons_zero, List.set_cons_succ]
            refine wpAnyH_take (i := 34) (v := .pointer (some ⟨yb, yo + k * 5 + 2, none⟩)) rfl (by kernel_rfl) (by kernel_rfl) (by kernel_rfl) (fun _ _ _ h => h) (.inl ⟨by rfl, fun V hV => by obtain ⟨c0, c1, c2, c3, c4, c5, c6, c7, c8, c9⟩ := hV; go_simp⟩) hHeld ?_
            try simp only [Act.put, List.getElem_toArray, List.getElem_cons_zero, List.getElem_cons_succ, List.setIfInBounds_toArray, List.set_cons_zero, List.set_cons_succ]
            refine wpAnyH_take (i := 35) (v := .agg #[.bool sr2, .slice Er nr dr]) rfl (by kernel_rfl) (by kernel_rfl) (by kernel_rfl) (fun _ _ _ h => h) (.inl ⟨by rfl, fun V hV => by obtain ⟨c0, c1, c2, c3, c4, c5, c6, c7, c8, c9⟩ := hV; go_simp⟩) hHeld ?_
            try simp only [Act.put, List.getElem_toArray, List.getElem_cons_zero, List.getElem_cons_succ, List.setIfInBounds_toArray, List.set_cons_zero, List.set_cons_succ]
            refine wpAnyH_ready (rs := [36]) (by kernel_rfl) (by simp) ?_
            refine AllReadyH.cons rfl (fun K hK => ?_) AllReadyH.nil
            go_simp
            refine (H2.out _ hv1).mono ?_
            rintro e v2 ⟨rfl, hc⟩
            have hv2 : Below wr.heap.size wr v2 := hv1.trans (hc.mono hv1.size)
            clear hc
            have qv20 := (cellOf hv2 hxw).trans x0
            have qv21 := (cellOf hv2 hxw).trans x1
            have qv22 := (cellOf hv2 hxw).trans x2
            have qv23 := (cellOf hv2 hxw).trans x3
            have qv24 := (cellOf hv2 hxw).trans x4
            have rv20 := (cellOf hv2 hyw).trans y0
            have rv21 := (cellOf hv2 hyw).trans y1
            have rv22 := (cellOf hv2 hyw).trans y2
            have rv23 := (cellOf hv2 hyw).trans y3
            have rv24 := (cellOf hv2 hyw).trans y4
            refine hK.out _ _ ⟨qv20, qv21, qv22, qv23, qv24, rv20, rv21, rv22, rv23, rv24⟩ (fun hHeld => ?_)
            clear hK K
            try simp only [Act.put, List.getElem_toArray, List.getElem_cons_zero, List.getElem_cons_succ, List.setIfInBounds_toArray, List.set_cons_zero, List.set_cons_succ]
            refine wpAnyH_take (i := 37) (v := .bool (!s2)) rfl (by kernel_rfl) (by kernel_rfl) (by kernel_rfl) (fun _ _ _ h => h) (.inl ⟨by rfl, fun V hV => by obtain ⟨c0, c1, c2, c3, c4, c5, c6, c7, c8, c9⟩ := hV; go_simp⟩) hHeld ?_
            try simp only [Act.put, List.getElem_toArray, List.getElem_cons_zero, List.getElem_cons_succ, List.setIfInBounds_toArray, List.set_cons_zero, List.set_cons_succ]
            refine wpAnyH_take (i := 38) (v := .bool (!s2)) rfl (by kernel_rfl) (by kernel_rfl) (by kernel_rfl) (fun _ _ _ h => h) (.inl ⟨by rfl, fun V hV => by obtain ⟨c0, c1, c2, c3, c4, c5, c6, c7, c8, c9⟩ := hV; go_simp⟩) hHeld ?_
            try simp only [Act.put, List.getElem_toArray, List.getElem_cons_zero, List.getElem_cons_succ, List.setIfInBounds_toArray, List.set_cons_zero, List.set_cons_succ]
            refine wpAnyH_done (by kernel_rfl) ?_ _
            refine NoPanic.normal ?_
            rcases s2 with _ | _
            · have h1 : decide (xs = ys) = false := decide_eq_false (Hne.out (of_decide_eq_false (by rw [Hsr.out]; simp)))
              have H1x := Lib.hid h1
              clear h1
              go_wp2_with fail
              go_ret
              exact ⟨ret_bool H1x.out.symm, hbr.trans (hv2.mono hbr.size)⟩
            · have h2 := Hst.out (of_decide_eq_true (by rw [Hsr.out, Hbe.out]; rfl))
              have H2x := Lib.hid h2
              clear h2
              go_wp2_with fail
              go_roundw
              case rel => exact ⟨k + 1, by omega, by go_num, H2x.out, hbr.trans (hv2.mono hbr.size)⟩
              case measure => simp [RowKit.intOf]; omega
        · have hbe : (br == br2) = false := by cases br <;> cases br2 <;> first | rfl | cases hbb
          have h1 : decide (xs = ys) = false := decide_eq_false (Hne.out (of_decide_eq_false (by rw [Hsr.out, hbe]; rfl)))
          have hbq : ¬ br = br2 := by simpa using hbe
          have Hbq := Lib.hid hbq
          clear hbe hbq hbb
          go_upto_region 6 with fail
          refine wp_region_noPanic ?_
          refine wp_region_held_drew (S := (fun V => V.cell? ⟨xb, xo + k * 5, none⟩ = some (.bool sl) ∧ V.cell? ⟨xb, xo + k * 5 + 1, none⟩ = some (.slice Al ml cl) ∧ V.cell? ⟨xb, xo + k * 5 + 2, none⟩ = some (.bool sr) ∧ V.cell? ⟨xb, xo + k * 5 + 3, none⟩ = some (.slice Ar mr cr) ∧ V.cell? ⟨xb, xo + k * 5 + 4, none⟩ = some (.bool br) ∧ V.cell? ⟨yb, yo + k * 5, none⟩ = some (.bool sl2) ∧ V.cell? ⟨yb, yo + k * 5 + 1, none⟩ = some (.slice El nl dl) ∧ V.cell? ⟨yb, yo + k * 5 + 2, none⟩ = some (.bool sr2) ∧ V.cell? ⟨yb, yo + k * 5 + 3, none⟩ = some (.slice Er nr dr) ∧ V.cell? ⟨yb, yo + k * 5 + 4, none⟩ = some (.bool br2))) (by kernel_rfl) ⟨x0, x1, x2, x3, x4, y0, y1, y2, y3, y4⟩ (fun hHeld => ?_)
          refine wpAnyH_take (i := 0) (v := .slice (some ⟨xb, xo, none⟩) n c) rfl (by kernel_rfl) (by kernel_rfl) (by kernel_rfl) (fun _ _ _ h => h) (.inl ⟨by rfl, fun V hV => by obtain ⟨c0, c1, c2, c3, c4, c5, c6, c7, c8, c9⟩ := hV; go_simp⟩) hHeld ?_
          try simp only [Act.put, List.getElem_toArray, List.getElem_cons_zero, List.setIfInBounds_toArray, List.set_cons_zero, List.set_cons_succ]
          refine wpAnyH_take (i := 1) (v := .int .i64 (k : Int)) rfl (by kernel_rfl) (by kernel_rfl) (by kernel_rfl) (fun _ _ _ h => h) (.inl ⟨by rfl, fun V hV => by obtain ⟨c0, c1, c2, c3, c4, c5, c6, c7, c8, c9⟩ := hV; go_simp⟩) hHeld ?_
          try simp only [Act.put, List.getElem_toArray, List.getElem_cons_zero, List.getElem_cons_succ, List.setIfInBounds_toArray, List.set_cons_zero, List.set_cons_succ]
          refine wpAnyH_take (i := 2) (v := .pointer (some ⟨xb, xo + k * 5, none⟩)) rfl (by kernel_rfl) (by kernel_rfl) (by kernel_rfl) (fun _ _ _ h => h) (.inl ⟨by rfl, fun V hV => by obtain ⟨c0, c1, c2, c3, c4, c5, c6, c7, c8, c9⟩ := hV; go_simp⟩) hHeld ?_
          try simp only [Act.put, List.getElem_toArray, List.getElem_cons_zero, List.getElem_cons_succ, List.setIfInBounds_toArray, List.set_cons_zero, List.set_cons_succ]
          refine wpAnyH_take (i := 3) (v := .pointer (some ⟨xb, xo + k * 5 + 4, none⟩)) rfl (by kernel_rfl) (by kernel_rfl) (by kernel_rfl) (fun _ _ _ h => h) (.inl ⟨by rfl, fun V hV => by obtain ⟨c0, c1, c2, c3, c4, c5, c6, c7, c8, c9⟩ := hV; go_simp⟩) hHeld ?_
          try simp only [Act.put, List.getElem_toArray, List.getElem_cons_zero, List.getElem_cons_succ, List.setIfInBounds_toArray, List.set_cons_zero, List.set_cons_succ]
          refine wpAnyH_take (i := 4) (v := .bool br) rfl (by kernel_rfl) (by kernel_rfl) (by kernel_rfl) (fun _ _ _ h => h) (.inl ⟨by rfl, fun V hV => by obtain ⟨c0, c1, c2, c3, c4, c5, c6, c7, c8, c9⟩ := hV; go_simp⟩) hHeld ?_
          try simp only [Act.put, List.getElem_toArray, List.getElem_cons_zero, List.getElem_cons_succ, List.setIfInBounds_toArray, List.set_cons_zero, List.set_cons_succ]
          refine wpAnyH_take (i := 5) (v := .slice (some ⟨yb, yo, none⟩) n d) rfl (by kernel_rfl) (by kernel_rfl) (by kernel_rfl) (fun _ _ _ h => h) (.inl ⟨by rfl, fun V hV => by obtain ⟨c0, c1, c2, c3, c4, c5, c6, c7, c8, c9⟩ := hV; go_simp⟩) hHeld ?_
          try simp only [Act.put, List.getElem_toArray, List.getElem_cons_zero, List.getElem_cons_succ, List.setIfInBounds_toArray, List.set_cons_zero, List.set_cons_succ]
          refine wpAnyH_take (i := 6) (v := .int .i64 (k : Int)) rfl (by kernel_rfl) (by kernel_rfl) (by kernel_rfl) (fun _ _ _ h => h) (.inl ⟨by rfl, fun V hV => by obtain ⟨c0, c1, c2, c3, c4, c5, c6, c7, c8, c9⟩ := hV; go_simp⟩) hHeld ?_
          try simp only [Act.put, List.getElem_toArray, List.getElem_cons_zero, List.getElem_cons_succ, List.setIfInBounds_toArray, List.set_cons_zero, List.set_cons_succ]
          refine wpAnyH_take (i := 7) (v := .pointer (some ⟨yb, yo + k * 5, none⟩)) rfl (by kernel_rfl) (by kernel_rfl) (by kernel_rfl) (fun _ _ _ h => h) (.inl ⟨by rfl, fun V hV => by obtain ⟨c0, c1, c2, c3, c4, c5, c6, c7, c8, c9⟩ := hV; go_simp⟩) hHeld ?_
          try simp only [Act.put, List.getElem_toArray, List.getElem_cons_zero, List.getElem_cons_succ, List.setIfInBounds_toArray, List.set_cons_zero, List.set_cons_succ]
          refine wpAnyH_take (i := 8) (v := .pointer (some ⟨yb, yo + k * 5 + 4, none⟩)) rfl (by kernel_rfl) (by kernel_rfl) (by kernel_rfl) (fun _ _ _ h => h) (.inl ⟨by rfl, fun V hV => by obtain ⟨c0, c1, c2, c3, c4, c5, c6, c7, c8, c9⟩ := hV; go_simp⟩) hHeld ?_
          try simp only [Act.put, List.getElem_toArray, List.getElem_cons_zero, List.getElem_cons_succ, List.setIfInBounds_toArray, List.set_cons_zero, List.set_cons_succ]
          refine wpAnyH_take (i := 9) (v := .bool br2) rfl (by kernel_rfl) (by kernel_rfl) (by kernel_rfl) (fun _ _ _ h => h) (.inl ⟨by rfl, fun V hV => by obtain ⟨c0, c1, c2, c3, c4, c5, c6, c7, c8, c9⟩ := hV; go_simp⟩) hHeld ?_
          try simp only [Act.put, List.getElem_toArray, List.getElem_cons_zero, List.getElem_cons_succ, List.setIfInBounds_toArray, List.set_cons_zero, List.set_cons_succ]
          refine wpAnyH_take (i := 10) (v := .bool true) rfl (by kernel_rfl) (by kernel_rfl) (by kernel_rfl) (fun _ _ _ h => h) (.inl ⟨by rfl, fun V hV => by obtain ⟨c0, c1, c2, c3, c4, c5, c6, c7, c8, c9⟩ := hV; go_simp; exact Hbq.out⟩) hHeld ?_
          try simp only [Act.put, List.getElem_toArray, List.getElem_cons_zero, List.getElem_cons_succ, List.setIfInBounds_toArray, List.set_cons_zero, List.set_cons_succ]
          refine wpAnyH_take (i := 11) (v := .bool true) rfl (by kernel_rfl) (by kernel_rfl) (by kernel_rfl) (fun _ _ _ h => h) (.inl ⟨by rfl, fun V hV => by obtain ⟨c0, c1, c2, c3, c4, c5, c6, c7, c8, c9⟩ := hV; go_simp⟩) hHeld ?_
          try simp only [Act.put, List.getElem_toArray, List.getElem_cons_zero, List.getElem_cons_succ, List.setIfInBounds_toArray, List.set_cons_zero, List.set_cons_succ]
          refine wpAnyH_take (i := 12) (v := undef) rfl (by kernel_rfl) (by kernel_rfl) (by kernel_rfl) (fun _ _ _ h => h) (.inr ⟨by rfl, rfl⟩) hHeld ?_
          try simp only [Act.put, List.getElem_toArray, List.getElem_cons_zero, List.getElem_cons_succ, List.setIfInBounds_toArray, List.set_cons_zero, List.set_cons_succ]
          refine wpAnyH_take (i := 13) (v := undef) rfl (by kernel_rfl) (by kernel_rfl) (by kernel_rfl) (fun _ _ _ h => h) (.inr ⟨by rfl, rfl⟩) hHeld ?_
          try simp only [Act.put, List.getElem_toArray, List.getElem_cons_zero, List.getElem_cons_succ, List.setIfInBounds_toArray, List.set_cons_zero, List.set_cons_succ]
          refine wpAnyH_take (i := 14) (v := undef) rfl (by kernel_rfl) (by kernel_rfl) (by kernel_rfl) (fun _ _ _ h => h) (.inr ⟨by rfl, rfl⟩) hHeld ?_
          try simp only [Act.put, List.getElem_toArray, List.getElem_cons_zero, List.getElem_cons_succ, List.setIfInBounds_toArray, List.set_cons_zero, List.set_cons_succ]
          refine wpAnyH_take (i := 15) (v := undef) rfl (by kernel_rfl) (by kernel_rfl) (by kernel_rfl) (fun _ _ _ h => h) (.inr ⟨by rfl, rfl⟩) hHeld ?_
          try simp only [Act.put, List.getElem_toArray, List.getElem_cons_zero, List.getElem_cons_succ, List.setIfInBounds_toArray, List.set_cons_zero, List.set_cons_succ]
          refine wpAnyH_take (i := 16) (v := undef) rfl (by kernel_rfl) (by kernel_rfl) (by kernel_rfl) (fun _ _ _ h => h) (.inr ⟨by rfl, rfl⟩) hHeld ?_
          try simp only [Act.put, List.getElem_toArray, List.getElem_cons_zero, List.getElem_cons_succ, List.setIfInBounds_toArray, List.set_cons_zero, List.set_cons_succ]
          refine wpAnyH_take (i := 17) (v := undef) rfl (by kernel_rfl) (by kernel_rfl) (by kernel_rfl) (fun _ _ _ h => h) (.inr ⟨by rfl, rfl⟩) hHeld ?_
          try simp only [Act.put, List.getElem_toArray, List.getElem_cons_zero, List.getElem_cons_succ, List.setIfInBounds_toArray, List.set_cons_zero, List.set_cons_succ]
          refine wpAnyH_take (i := 18) (v := undef) rfl (by kernel_rfl) (by kernel_rfl) (by kernel_rfl) (fun _ _ _ h => h) (.inr ⟨by rfl, rfl⟩) hHeld ?_
          try simp only [Act.put, List.getElem_toArray, List.getElem_cons_zero, List.getElem_cons_succ, List.setIfInBounds_toArray, List.set_cons_zero, List.set_cons_succ]
          refine wpAnyH_take (i := 19) (v := undef) rfl (by kernel_rfl) (by kernel_rfl) (by kernel_rfl) (fun _ _ _ h => h) (.inr ⟨by rfl, rfl⟩) hHeld ?_
          try simp only [Act.put, List.getElem_toArray, List.getElem_cons_zero, List.getElem_cons_succ, List.setIfInBounds_toArray, List.set_cons_zero, List.set_cons_succ]
          refine wpAnyH_take (i := 20) (v := undef) rfl (by kernel_rfl) (by kernel_rfl) (by kernel_rfl) (fun _ _ _ h => h) (.inr ⟨by rfl, rfl⟩) hHeld ?_
          try simp only [Act.put, List.getElem_toArray, List.getElem_cons_zero, List.getElem_cons_succ, List.setIfInBounds_toArray, List.set_cons_zero, List.set_cons_succ]
          refine wpAnyH_take (i := 21) (v := undef) rfl (by kernel_rfl) (by kernel_rfl) (by kernel_rfl) (fun _ _ _ h => h) (.inr ⟨by rfl, rfl⟩) hHeld ?_
          try simp only [Act.put, List.getElem_toArray, List.getElem_cons_zero, List.getElem_cons_succ, List.setIfInBounds_toArray, List.set_cons_zero, List.set_cons_succ]
          refine wpAnyH_ready (rs := [22]) (by kernel_rfl) (by simp) ?_
          refine AllReadyH.cons rfl (fun K hK => ?_) AllReadyH.nil
          go_simp
          refine hK.out _ _ hHeld (fun hHeld => ?_)
          clear hK K
          try simp only [Act.put, List.getElem_toArray, List.getElem_cons_zero, List.getElem_cons_succ, List.setIfInBounds_toArray, List.set_cons_zero, List.set_cons_succ]
          refine wpAnyH_take (i := 23) (v := undef) rfl (by kernel_rfl) (by kernel_rfl) (by kernel_rfl) (fun _ _ _ h => h) (.inr ⟨by rfl, rfl⟩) hHeld ?_
          try simp only [Act.put, List.getElem_toArray, List.getElem_cons_zero, List.getElem_cons_succ, List.setIfInBounds_toArray, List.set_cons_zero, List.set_cons_succ]
          refine wpAnyH_take (i := 24) (v := .bool true) rfl (by kernel_rfl) (by kernel_rfl) (by kernel_rfl) (fun _ _ _ h => h) (.inl ⟨by rfl, fun V hV => by obtain ⟨c0, c1, c2, c3, c4, c5, c6, c7, c8, c9⟩ := hV; go_simp⟩) hHeld ?_
          try simp only [Act.put, List.getElem_toArray, List.getElem_cons_zero, List.getElem_cons_succ, List.setIfInBounds_toArray, List.set_cons_zero, List.set_cons_succ]
          refine wpAnyH_take (i := 25) (v := .bool true) rfl (by kernel_rfl) (by kernel_rfl) (by kernel_rfl) (fun _ _ _ h => h) (.inl ⟨by rfl, fun V hV => by obtain ⟨c0, c1, c2, c3, c4, c5, c6, c7, c8, c9⟩ := hV; go_simp⟩) hHeld ?_
          try simp only [Act.put, List.getElem_toArray, List.getElem_cons_zero, List.getElem_cons_succ, List.setIfInBounds_toArray, List.set_cons_zero, List.set_cons_succ]
          refine wpAnyH_take (i := 26) (v := undef) rfl (by kernel_rfl) (by kernel_rfl) (by kernel_rfl) (fun _ _ _ h => h) (.inr ⟨by rfl, rfl⟩) hHeld ?_
          try simp only [Act.put, List.getElem_toArray, List.getElem_cons_zero, List.getElem_cons_succ, List.setIfInBounds_toArray, List.set_cons_zero, List.set_cons_succ]
          refine wpAnyH_take (i := 27) (v := undef) rfl (by kernel_rfl) (by kernel_rfl) (by kernel_rfl) (fun _ _ _ h => h) (.inr ⟨by rfl, rfl⟩) hHeld ?_
          try simp only [Act.put, List.getElem_toArray, List.getElem_cons_zero, List.getElem_cons_succ, List.setIfInBounds_toArray, List.set_cons_zero, List.set_cons_succ]
          refine wpAnyH_take (i := 28) (v := undef) rfl (by kernel_rfl) (by kernel_rfl) (by kernel_rfl) (fun _ _ _ h => h) (.inr ⟨by rfl, rfl⟩) hHeld ?_
          try simp only [Act.put, List.getElem_toArray, List.getElem_cons_zero, List.getElem_cons_succ, List.setIfInBounds_toArray, List.set_cons_zero, List.set_cons_succ]
          refine wpAnyH_take (i := 29) (v := undef) rfl (by kernel_rfl) (by kernel_rfl) (by kernel_rfl) (fun _ _ _ h => h) (.inr ⟨by rfl, rfl⟩) hHeld ?_
          try simp only [Act.put, List.getElem_toArray, List.getElem_cons_zero, List.getElem_cons_succ, List.setIfInBounds_toArray, List.set_cons_zero, List.set_cons_succ]
          refine wpAnyH_take (i := 30) (v := undef) rfl (by kernel_rfl) (by kernel_rfl) (by kernel_rfl) (fun _ _ _ h => h) (.inr ⟨by rfl, rfl⟩) hHeld ?_
          try simp only [Act.put, List.getElem_toArray, List.getElem_cons_zero, List.getElem_cons_succ, List.setIfInBounds_toArray, List.set_cons_zero, List.set_cons_succ]
          refine wpAnyH_take (i := 31) (v := undef) rfl (by kernel_rfl) (by kernel_rfl) (by kernel_rfl) (fun _ _ _ h => h) (.inr ⟨by rfl, rfl⟩) hHeld ?_
          try simp only [Act.put, List.getElem_toArray, List.getElem_cons_zero, List.getElem_cons_succ, List.setIfInBounds_toArray, List.set_cons_zero, List.set_cons_succ]
          refine wpAnyH_take (i := 32) (v := undef) rfl (by kernel_rfl) (by kernel_rfl) (by kernel_rfl) (fun _ _ _ h => h) (.inr ⟨by rfl, rfl⟩) hHeld ?_
          try simp only [Act.put, List.getElem_toArray, List.getElem_cons_zero, List.getElem_cons_succ, List.setIfInBounds_toArray, List.set_cons_zero, List.set_cons_succ]
          refine wpAnyH_take (i := 33) (v := undef) rfl (by kernel_rfl) (by kernel_rfl) (by kernel_rfl) (fun _ _ _ h => h) (.inr ⟨by rfl, rfl⟩) hHeld ?_
          try simp only [Act.put, List.getElem_toArray, List.getElem_cons_zero, List.getElem_cons_succ, List.setIfInBounds_toArray, List.set_cons_zero, List.set_cons_succ]
          refine wpAnyH_take (i := 34) (v := undef) rfl (by kernel_rfl) (by kernel_rfl) (by kernel_rfl) (fun _ _ _ h => h) (.inr ⟨by rfl, rfl⟩) hHeld ?_
          try simp only [Act.put, List.getElem_toArray, List.getElem_cons_zero, List.getElem_cons_succ, List.setIfInBounds_toArray, List.set_cons_zero, List.set_cons_succ]
          refine wpAnyH_take (i := 35) (v := undef) rfl (by kernel_rfl) (by kernel_rfl) (by kernel_rfl) (fun _ _ _ h => h) (.inr ⟨by rfl, rfl⟩) hHeld ?_
          try simp only [Act.put, List.getElem_toArray, List.getElem_cons_zero, List.getElem_cons_succ, List.setIfInBounds_toArray, List.set_cons_zero, List.set_cons_succ]
          refine wpAnyH_ready (rs := [36]) (by kernel_rfl) (by simp) ?_
          refine AllReadyH.cons rfl (fun K hK => ?_) AllReadyH.nil
          go_simp
          refine hK.out _ _ hHeld (fun hHeld => ?_)
          clear hK K
          try simp only [Act.put, List.getElem_toArray, List.getElem_cons_zero, List.getElem_cons_succ, List.setIfInBounds_toArray, List.set_cons_zero, List.set_cons_succ]
          refine wpAnyH_take (i := 37) (v := undef) rfl (by kernel_rfl) (by kernel_rfl) (by kernel_rfl) (fun _ _ _ h => h) (.inr ⟨by rfl, rfl⟩) hHeld ?_
          try simp only [Act.put, List.getElem_toArray, List.getElem_cons_zero, List.getElem_cons_succ, List.setIfInBounds_toArray, List.set_cons_zero, List.set_cons_succ]
          refine wpAnyH_take (i := 38) (v := .bool true) rfl (by kernel_rfl) (by kernel_rfl) (by kernel_rfl) (fun _ _ _ h => h) (.inl ⟨by rfl, fun V hV => by obtain ⟨c0, c1, c2, c3, c4, c5, c6, c7, c8, c9⟩ := hV; go_simp⟩) hHeld ?_
          try simp only [Act.put, List.getElem_toArray, List.getElem_cons_zero, List.getElem_cons_succ, List.setIfInBounds_toArray, List.set_cons_zero, List.set_cons_succ]
          refine wpAnyH_done (by kernel_rfl) ?_ _
          refine NoPanic.normal ?_
          have H1x := Lib.hid h1
          clear h1
          go_wp2_with fail
          go_ret
          exact ⟨ret_bool H1x.out.symm, hbr.drew⟩
      · have h1 : decide (xs = ys) = true := by
          rw [List.take_of_length_le (by rw [Hxl.out]; exact hge), List.take_of_length_le (by rw [Hyl.out]; exact hge)] at htk
          exact decide_eq_true htk
        have H1 := Lib.hid h1
        clear h1 htk
        go_wp2_with fail
        go_ret
        exact ⟨ret_bool H1.out.symm, hbr⟩
  · have h1 : decide (xs = ys) = false := decide_eq_false (fun e => hnm (by rw [← hxl, ← hyl, e]))
    have H1 := Lib.hid h1
    have hne : ((n : Int) != (m : Int)) = true := by rw [bne_iff_ne]; omega
    clear hxl hyl h1
    go_enter Tryz.func38, Tryz.ntmps38
    go_wp2
    go_ret
    exact ⟨ret_bool H1.out.symm, Below.refl _ _⟩
end Go.Vir

/- The reference's patterns: viramaref09.parts. -/
namespace Go.Vir
open Go Go.RowKit Go.Proofs Go.Shelf
attribute [local go_sem] Oper.semAt_some

theorem byte_beq (x c : UInt8) : ((x.toNat : Int) == (c.toNat : Int)) = (x == c) := by
  rw [Bool.eq_iff_iff, beq_iff_eq, beq_iff_eq]
  constructor
  · intro h; exact UInt8.toNat.inj (by omega)
  · rintro rfl; rfl
/-- A text ahead of the first of a list's. -/
def gluR (p : List UInt8) : List (List UInt8) → List (List UInt8)
  | [] => [p]
  | h :: r => (p ++ h) :: r
theorem gluR_nil {l : List (List UInt8)} (h : l ≠ []) : gluR [] l = l := by
  cases l with
  | nil => exact absurd rfl h
  | cons a b => rfl
theorem gluR_glu (p q : List UInt8) (l : List (List UInt8)) : gluR p (gluR q l) = gluR (p ++ q) l := by
  cases l with
  | nil => rfl
  | cons a b => simp [gluR]
theorem partsR_go (i : Bool) (b : UInt8) (t : List UInt8) (h : ¬ (b = 32 ∧ i = false)) : partsR i (b :: t) = gluR [b] (partsR (b == 91 || (i && b != 93)) t) := by
  rw [partsR, if_neg h]
  cases partsR (b == 91 || (i && b != 93)) t <;> rfl
theorem partsR_cut (t : List UInt8) : partsR false (32 :: t) = [] :: partsR false t := by
  rw [partsR, if_pos ⟨rfl, rfl⟩]
theorem seg_more {s : List UInt8} {f k : Nat} (hf : f ≤ k) (hk : k < s.length) : (s.drop f).take (k + 1 - f) = (s.drop f).take (k - f) ++ [s[k]] := by
  rw [show k + 1 - f = (k - f) + 1 by omega, List.take_succ_eq_append_getElem (by simp; omega)]
  simp only [List.getElem_drop, show f + (k - f) = k by omega]

set_option maxRecDepth 100000 in
set_option maxHeartbeats 3200000 in
theorem ref_parts (s : List UInt8) (w : World) (hs : s.length ≤ 10000000) :
    Calls Tryz.prog 168 #[.string ⟨s.toArray⟩] w fun e w' => ∃ A n d, e = .returned (.slice A n d) ∧ n ≤ d ∧ Strs w' w'.heap.size A n (partsR false s) ∧ Below w.heap.size w w' := by
  obtain ⟨i0, hi0, hz0, hz1, hz2⟩ := info_parts str_info
  go_enter Tryz.func168, Tryz.ntmps168
  go_wp2
  go_loopw [3, 4, 5, 6] (fun v0 fv iv i wr => ∃ (k f : Nat) (b : Bool) (v : Value) (L : List (List UInt8)), v = v0 ∧ k ≤ s.length + 1 ∧ i = .int .i64 (k : Int) ∧ fv = .int .i64 (f : Int) ∧ iv = .bool b ∧ wr.ownsRow w.heap.size 9 1 v L.length (strVs L) ∧ Below w.heap.size w wr ∧ L.length ≤ k ∧
      ((k ≤ s.length ∧ f ≤ k ∧ partsR false s = L ++ gluR ((s.drop f).take (k - f)) (partsR b (s.drop k))) ∨ (k = s.length + 1 ∧ L = partsR false s))) (fun _ _ _ i _ => s.length + 1 - (RowKit.intOf i).toNat)
  case atStart => exact ⟨0, 0, false, _, [], rfl, by omega, rfl, rfl, rfl, World.ownsRow_nil _ _ _ _, Below.refl _ _, by simp, .inl ⟨by omega, by omega, by simp [gluR_nil (partsR_ne _ _)]⟩⟩
  case round =>
    obtain ⟨k, f, b, v, L, rfl, hk, rfl, rfl, rfl, hown, hbr, hLk, hst⟩ := hrel
    rcases hst with ⟨hks, hfk, hsp⟩ | ⟨hks, hL⟩
    · rcases Nat.lt_or_ge k s.length with hlt | hge
      · have hne3 : (((⟨s.toArray⟩ : ByteArray)[k]'hlt).toNat : Int) = (s[k].toNat : Int) := rfl
        have hdr := List.drop_eq_getElem_cons hlt
        have hsm := seg_more hfk hlt
        have q32 : ((s[k].toNat : Int) == 32) = (s[k] == 32) := byte_beq s[k] 32
        have q91 : ((s[k].toNat : Int) == 91) = (s[k] == 91) := byte_beq s[k] 91
        have q93 : ((s[k].toNat : Int) != 93) = (s[k] != 93) := congrArg (! ·) (byte_beq s[k] 93)
        have hkb : ((k : Int) == (s.length : Int)) = false := by rw [beq_eq_false_iff_ne]; omega
        by_cases hcut : s[k] = 32 ∧ b = false
        · obtain ⟨hc, rfl⟩ := hcut
          have hsp2 : partsR false s = (L ++ [(s.drop f).take (k - f)]) ++ partsR false (s.drop (k + 1)) := by
            rw [hsp, hdr, hc, partsR_cut]; simp [gluR]
          have Hsp := Lib.hid hsp2
          have hne2 : ((s[k].toNat : Int) == 32) = true := by rw [hc]; rfl
          clear hsp hsp2 hdr hsm hc q32 q91 q93
          have hown1 := hown.alloc (.cells #[.string ((⟨s.toArray⟩ : ByteArray).extract f k)] 9)
          have Hcs := Lib.hid (cell_one_new wr (.string ((⟨s.toArray⟩ : ByteArray).extract f k)) 9)
          have hbrA : Below w.heap.size w (wr.alloc (.cells #[.string ((⟨s.toArray⟩ : ByteArray).extract f k)] 9)) := hbr.alloc hbr.size _
          have Hlt := Lib.hid hown.lt
          have hbs := hbr.size
          clear hown hbr
          go_wp2_with (at_builtin; refine wpList_append_at _ rfl _ _ 23 rfl w.heap.size 9 i0 (.string ⟨#[]⟩) 1 16 Tryz.underlying23 hi0 hz0 hz1 hz2 rfl (by decide) _ _ _ rfl hown1 ⟨wr.heap.size, 0, none⟩ 1 1 [.string ((⟨s.toArray⟩ : ByteArray).extract f k)] rfl rfl Hcs.out (by simp [Value.oneCell']) (by simp only [maxLen]; omega) (by omega) (by simp; omega) ?_; intro v' w5 hown5 hgrow hat)
          have hbr5 : Below w.heap.size w w5 := hbrA.grown hgrow (by simp; omega) (fun g hg => (Hlt.out g hg).1)
          have hown6 : w5.ownsRow w.heap.size 9 1 v' (L ++ [(s.drop f).take (k - f)]).length (strVs (L ++ [(s.drop f).take (k - f)])) := by
            rw [text_seg] at hown5
            simpa [strVs] using hown5
          go_roundw
          case rel => exact ⟨k + 1, k + 1, false, _, _, rfl, by omega, by go_num, by go_num, rfl, hown6, hbr5, by simp; omega, .inl ⟨by omega, by omega, by rw [Hsp.out]; simp [gluR_nil (partsR_ne _ _)]⟩⟩
          case measure => simp [RowKit.intOf]; omega
        · have hsp2 : partsR false s = L ++ gluR ((s.drop f).take (k + 1 - f)) (partsR (s[k] == 91 || (b && s[k] != 93)) (s.drop (k + 1))) := by
            rw [hsp, hdr, partsR_go b _ _ hcut, gluR_glu, hsm]
          have hcut2 : ¬ ((s[k] == 32) = true ∧ b = false) := by rw [beq_iff_eq]; exact hcut
          have Hsp := Lib.hid hsp2
          clear hsp hsp2 hdr hsm hcut
          generalize (s[k] == 32) = b32 at *
          generalize (s[k] == 91) = b91 at *
          generalize (s[k] != 93) = b93 at *
          rcases b with _ | _
          · rcases b32 with _ | _
            · clear hcut2
              rcases b91 with _ | _ <;> rcases b93 with _ | _ <;> (
                go_wp2_with fail
                go_roundw
                case rel => exact ⟨k + 1, f, _, _, L, rfl, by omega, by go_num, rfl, rfl, hown, hbr, by omega, .inl ⟨by omega, by omega, Hsp.out⟩⟩
                case measure => simp [RowKit.intOf]; omega)
            · exact absurd ⟨rfl, rfl⟩ hcut2
          · clear hcut2
            rcases b32 with _ | _ <;> rcases b91 with _ | _ <;> rcases b93 with _ | _ <;> (
              go_wp2_with fail
              go_roundw
              case rel => exact ⟨k + 1, f, _, _, L, rfl, by omega, by go_num, rfl, rfl, hown, hbr, by omega, .inl ⟨by omega, by omega, Hsp.out⟩⟩
              case measure => simp [RowKit.intOf]; omega)
      · have hkl : k = s.length := by omega
        have hsp2 : partsR false s = L ++ [(s.drop f).take (s.length - f)] := by
          rw [hsp, hkl, List.drop_eq_nil_of_le (Nat.le_refl _), partsR]; simp [gluR]
        have Hsp := Lib.hid hsp2
        have hke : ((k : Int) == (s.length : Int)) = true := by rw [beq_iff_eq]; omega
        clear hsp hsp2
        subst hkl
        have hown1 := hown.alloc (.cells #[.string ((⟨s.toArray⟩ : ByteArray).extract f s.length)] 9)
        have Hcs := Lib.hid (cell_one_new wr (.string ((⟨s.toArray⟩ : ByteArray).extract f s.length)) 9)
        have hbrA : Below w.heap.size w (wr.alloc (.cells #[.string ((⟨s.toArray⟩ : ByteArray).extract f s.length)] 9)) := hbr.alloc hbr.size _
        have Hlt := Lib.hid hown.lt
        have hbs := hbr.size
        clear hown hbr
        go_wp2_with (at_builtin; refine wpList_append_at _ rfl _ _ 23 rfl w.heap.size 9 i0 (.string ⟨#[]⟩) 1 16 Tryz.underlying23 hi0 hz0 hz1 hz2 rfl (by decide) _ _ _ rfl hown1 ⟨wr.heap.size, 0, none⟩ 1 1 [.string ((⟨s.toArray⟩ : ByteArray).extract f s.length)] rfl rfl Hcs.out (by simp [Value.oneCell']) (by simp only [maxLen]; omega) (by omega) (by simp; omega) ?_; intro v' w5 hown5 hgrow hat)
        have hbr5 : Below w.heap.size w w5 := hbrA.grown hgrow (by simp; omega) (fun g hg => (Hlt.out g hg).1)
        have hown6 : w5.ownsRow w.heap.size 9 1 v' (L ++ [(s.drop f).take (s.length - f)]).length (strVs (L ++ [(s.drop f).take (s.length - f)])) := by
          rw [text_seg] at hown5
          simpa [strVs] using hown5
        go_roundw
        case rel => exact ⟨s.length + 1, s.length + 1, _, _, _, rfl, by omega, by go_num, by go_num, rfl, hown6, hbr5, by simp; omega, .inr ⟨rfl, Hsp.out.symm⟩⟩
        case measure => simp [RowKit.intOf]
    · subst hks
      rw [hL] at hown
      obtain ⟨A', n', c', rfl, hn', hnc', hS⟩ := slice_own hown
      have HS := Lib.hid hS
      clear hS hown hL hn'
      go_wp2_with fail
      go_ret
      exact ⟨A', n', c', rfl, hnc', HS.out, hbr⟩
end Go.Vir
