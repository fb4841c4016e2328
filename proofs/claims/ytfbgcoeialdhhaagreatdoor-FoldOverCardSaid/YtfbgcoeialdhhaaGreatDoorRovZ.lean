/- For any two texts and number: what the second file says counts over the first. (The listed variables are tied to the text.) -/
import Derived.Test.YtfbgcoeialdhhaaGreatDoorEn
import Derived.Test.YtfbgcoeialdhhaaGreatDoorEb
import Derived.Test.YtfbgcoeialdhhaaGreatDoorEd
import Derived.Test.YtfbgcoeialdhhaaGreatDoorRocZ
import Derived.Test.YtfbgcoeialdhhaaGreatDoorTie
import Derived.Test.YtfbgcoeialdhhaaGreatDoorCards
namespace Go.Vir
open Go Go.RowKit Go.Proofs Go.Shelf
attribute [local go_sem] Oper.semAt_some

theorem rightT_256 {T : TrV} (h : rightT T = true) : ∀ b ∈ T.bl, b.length = 256 := fun b hb => by
  unfold rightT at h
  simp only [Bool.and_eq_true, List.all_eq_true] at h
  have := h.2.2 b hb
  unfold blkB at this
  simp only [Bool.and_eq_true, decide_eq_true_eq] at this
  exact this.1
theorem rightT_4352 {T : TrV} (h : rightT T = true) : T.ix.length = 4352 := by
  unfold rightT at h
  simp only [Bool.and_eq_true, decide_eq_true_eq] at h
  exact h.1
theorem Cas.no256 {w : World} {B B' nl nt ni nb mi mb : Nat} {Al At Ci Cb Ii Ib : Option Addr} {c : CasV} {cl ct ci cb di db : Nat} (h : Cas w B Al nl At nt Ci ni Cb nb Ii mi Ib mb c) (hr : rightC c = true) {q o : Nat} {t : TypeId} (hq : w.heap[q]? = some (.cells #[.slice Al nl cl, .slice At nt ct, .slice Ci ni ci, .slice Cb nb cb, .slice Ii mi di, .slice Ib mb db] t (0, 0)))
    {A' : Option Addr} {n' c' : Nat} (hc : w.cell? ⟨q, o, none⟩ = some (.slice A' n' c')) {l : List Int} (hl : l.length = 256) : ¬ Ints w B' A' n' l := fun hI => by
  unfold rightC at hr
  simp only [Bool.and_eq_true] at hr
  have e1 := rightT_4352 hr.2.2.1
  have e2 := rightT_4352 hr.2.2.2
  have hn := hI.len
  have l1 := h.ca.ix.len
  have l2 := h.ig.ix.len
  have key : ∀ {A : Option Addr} {n : Nat} {bs : List (List Int)}, Intss w B A n bs → n = 256 → ¬ Ints w B' A n l := fun {A n bs} h1 hn hI => by
    obtain ⟨b, o, e, _, hc1⟩ := h1.at_ (by omega)
    obtain ⟨b2, o2, e2, _, hc2⟩ := hI.at_ (by omega)
    rw [e] at e2
    obtain ⟨rfl, rfl⟩ : b = b2 ∧ o = o2 := by simpa using e2
    obtain ⟨A', n', c', h3, _⟩ := hc1 0 (by rw [h1.len]; omega)
    have h4 := hc2 0 (by rw [hI.len]; omega)
    rw [h3] at h4
    cases h4
  rw [cell_blk hq] at hc
  rcases o with _ | _ | _ | _ | _ | _ | o <;> simp at hc
  · obtain ⟨rfl, rfl, rfl⟩ := hc
    exact h.lo.no_ints (by omega) hI
  · obtain ⟨rfl, rfl, rfl⟩ := hc
    exact h.ti.no_ints (by omega) hI
  · omega
  · obtain ⟨rfl, rfl, rfl⟩ := hc
    exact key h.ca.bl (by omega) hI
  · omega
  · obtain ⟨rfl, rfl, rfl⟩ := hc
    exact key h.ig.bl (by omega) hI
theorem Cas.keptR {W W' : World} {B B' nl nt ni nb mi mb : Nat} {Al At Ci Cb Ii Ib : Option Addr} {c : CasV} {O : Nat → Prop} (h : Cas W B Al nl At nt Ci ni Cb nb Ii mi Ib mb c) (hr : rightC c = true) (hk : ∀ k, ¬ O k → W'.heap[k]? = W.heap[k]?)
    (ho : ∀ k, O k → ∀ o i, W.cell? ⟨k, o, none⟩ ≠ some (.int .i64 i)) (ho2 : ∀ k, O k → ∀ o A' n' c', W.cell? ⟨k, o, none⟩ = some (.slice A' n' c') → ∀ l : List Int, l.length = 256 → ¬ Ints W B A' n' l) (hB : B ≤ B') : Cas W' B' Al nl At nt Ci ni Cb nb Ii mi Ib mb c := by
  unfold rightC at hr
  simp only [Bool.and_eq_true] at hr
  have e1 := rightT_256 hr.2.2.1
  have e2 := rightT_256 hr.2.2.2
  exact ⟨h.lo.keptN hk ho hB, h.ti.keptN hk ho hB, h.ca.keptN hk ho (fun k hk o A' n' c' hc l hl => ho2 k hk o A' n' c' hc l (e1 l hl)) hB, h.ig.keptN hk ho (fun k hk o A' n' c' hc l hl => ho2 k hk o A' n' c' hc l (e2 l hl)) hB⟩

set_option maxRecDepth 100000 in
set_option maxHeartbeats 8000000 in
theorem law_foldover (a0 b0 : List UInt8) (r : Int) (w : World) (hG : GlobP w) (h1 : a0.length ≤ 9223372036854775807) (h2 : b0.length ≤ 9223372036854775807) :
    Calls Tryz.prog 4 #[.string ⟨a0.toArray⟩, .string ⟨b0.toArray⟩, .int .i64 r] w fun e w' => e = .returned (.bool true) ∧ Below w.heap.size w w' := by
  have H0 := Lib.hid (law16_shown w hG)
  have HG := Lib.hid hG
  clear hG
  go_enter Tryz.func4, Tryz.ntmps4
  go_wp2_with fail
  refine H0.out.mono ?_
  clear H0
  rintro e w1 ⟨rfl, hb⟩
  have Hbw := Lib.hid hb
  clear hb
  go_upto_region 2 with fail
  have H := Lib.hid (law16_cut a0 w1 h1)
  go_wp2_with fail
  refine H.out.mono ?_
  clear H
  rintro e w' ⟨rfl, rfl⟩
  obtain ⟨a, ha⟩ : ∃ x, x = a0.take 800 := ⟨_, rfl⟩
  have Ha := Lib.hid ha
  have hla : a.length ≤ 800 := by rw [ha, List.length_take]; omega
  rw [← ha]
  clear ha
  obtain ⟨M1, hM1⟩ : ∃ M, M = makeC a [] [] := ⟨_, rfl⟩
  have HM1 := Lib.hid hM1
  have h := fold_Make a [] [] w1 (HG.out.below Hbw.out) (by omega) (by decide) (by decide)
  rw [← hM1] at h
  have H := Lib.hid h
  clear h
  clear hM1
  go_wp2_with fail
  refine H.out.mono ?_
  clear H
  rintro e w2 ⟨⟨A, rfl, hA, hO⟩, hb⟩
  obtain ⟨Al_1, nl_1, cl_1, At_1, nt_1, ct_1, Ci_1, ni_1, ci_1, Cb_1, nb_1, cb_1, Ii_1, mi_1, di_1, Ib_1, mb_1, db_1⟩ := A
  simp only [CasA.val, CasA.cs]
  obtain ⟨w3, hW⟩ : ∃ W, W = w2.alloc (.cells #[.slice Al_1 nl_1 cl_1, .slice At_1 nt_1 ct_1, .slice Ci_1 ni_1 ci_1, .slice Cb_1 nb_1 cb_1, .slice Ii_1 mi_1 di_1, .slice Ib_1 mb_1 db_1] 29) := ⟨_, rfl⟩
  obtain ⟨b1, hbn⟩ : ∃ b, b = w2.heap.size := ⟨_, rfl⟩
  have hbA : Below w2.heap.size w2 w3 := by rw [hW]; go_grown
  have hx : w3.heap[b1]? = some (.cells #[.slice Al_1 nl_1 cl_1, .slice At_1 nt_1 ct_1, .slice Ci_1 ni_1 ci_1, .slice Cb_1 nb_1 cb_1, .slice Ii_1 mi_1 di_1, .slice Ib_1 mb_1 db_1] 29 (0, 0)) := by rw [hW, hbn]; exact heap_new rfl
  have Hb1 := Lib.hid (show w.heap.size ≤ b1 by rw [hbn]; exact Nat.le_trans Hbw.out.size hb.size)
  have hb := hb.trans (hbA.mono hb.size)
  have Hx1 := Lib.hid hx
  have HA1 := Lib.hid ((hA.below hbA).more hbA.size)
  have HO1 := Lib.hid hO
  clear hx hA hO hbA
  go_upto_region 3 with fail
  rw [← hW, ← hbn]
  clear hW hbn
  replace Hbw := Lib.hid (Hbw.out.trans (hb.mono Hbw.out.size))
  clear hb
  go_upto_region 3 with fail
  have H := Lib.hid (law16_cut b0 w3 h2)
  go_wp2_with fail
  refine H.out.mono ?_
  clear H
  rintro e w' ⟨rfl, rfl⟩
  obtain ⟨b, hb⟩ : ∃ x, x = b0.take 800 := ⟨_, rfl⟩
  have Hb := Lib.hid hb
  have hlb : b.length ≤ 800 := by rw [hb, List.length_take]; omega
  rw [← hb]
  clear hb
  obtain ⟨M2, hM2⟩ : ∃ M, M = makeC [] b [] := ⟨_, rfl⟩
  have HM2 := Lib.hid hM2
  have h := fold_Make [] b [] w3 (HG.out.below Hbw.out) (by decide) (by omega) (by decide)
  rw [← hM2] at h
  have H := Lib.hid h
  clear h
  clear hM2
  go_wp2_with fail
  refine H.out.mono ?_
  clear H
  rintro e w4 ⟨⟨A, rfl, hA, hO⟩, hb⟩
  obtain ⟨Al_2, nl_2, cl_2, At_2, nt_2, ct_2, Ci_2, ni_2, ci_2, Cb_2, nb_2, cb_2, Ii_2, mi_2, di_2, Ib_2, mb_2, db_2⟩ := A
  simp only [CasA.val, CasA.cs]
  have hne12 : b1 ≠ w4.heap.size := by have h1 := (Array.getElem?_eq_some_iff.1 Hx1.out).1; have h2 := hb.size; omega
  obtain ⟨w5, hW⟩ : ∃ W, W = w4.alloc (.cells #[.slice Al_2 nl_2 cl_2, .slice At_2 nt_2 ct_2, .slice Ci_2 ni_2 ci_2, .slice Cb_2 nb_2 cb_2, .slice Ii_2 mi_2 di_2, .slice Ib_2 mb_2 db_2] 29) := ⟨_, rfl⟩
  obtain ⟨b2, hbn⟩ : ∃ b, b = w4.heap.size := ⟨_, rfl⟩
  have hbA : Below w4.heap.size w4 w5 := by rw [hW]; go_grown
  have hx : w5.heap[b2]? = some (.cells #[.slice Al_2 nl_2 cl_2, .slice At_2 nt_2 ct_2, .slice Ci_2 ni_2 ci_2, .slice Cb_2 nb_2 cb_2, .slice Ii_2 mi_2 di_2, .slice Ib_2 mb_2 db_2] 29 (0, 0)) := by rw [hW, hbn]; exact heap_new rfl
  have hb := hb.trans (hbA.mono hb.size)
  have Hx2 := Lib.hid hx
  have HA2 := Lib.hid ((hA.below hbA).more hbA.size)
  have HO2 := Lib.hid hO
  clear hx hA hO hbA
  rw [← hbn] at hne12
  go_upto_region 4 with fail
  rw [← hW, ← hbn]
  clear hW hbn
  replace Hbw := Lib.hid (Hbw.out.trans (hb.mono Hbw.out.size))
  replace Hx1 := Lib.hid ((hb.block _ (Array.getElem?_eq_some_iff.1 Hx1.out).1).trans Hx1.out)
  replace HA1 := Lib.hid ((HA1.out.below hb).more hb.size)
  clear hb
  go_upto_region 4 with fail
  have H := Lib.hid (law16_cut a0 w5 h1)
  go_wp2_with fail
  refine H.out.mono ?_
  clear H
  rintro e w' ⟨rfl, rfl⟩
  rw [← Ha.out]
  have H := Lib.hid (law16_cut b0 w5 h2)
  go_wp2_with fail
  refine H.out.mono ?_
  clear H
  rintro e w' ⟨rfl, rfl⟩
  rw [← Hb.out]
  obtain ⟨M3, hM3⟩ : ∃ M, M = makeC a b [] := ⟨_, rfl⟩
  have HM3 := Lib.hid hM3
  have h := fold_Make a b [] w5 (HG.out.below Hbw.out) (by omega) (by omega) (by decide)
  rw [← hM3] at h
  have H := Lib.hid h
  clear h
  clear hM3
  go_wp2_with fail
  refine H.out.mono ?_
  clear H
  rintro e w6 ⟨⟨A, rfl, hA, hO⟩, hb⟩
  obtain ⟨Al_3, nl_3, cl_3, At_3, nt_3, ct_3, Ci_3, ni_3, ci_3, Cb_3, nb_3, cb_3, Ii_3, mi_3, di_3, Ib_3, mb_3, db_3⟩ := A
  simp only [CasA.val, CasA.cs]
  have hne13 : b1 ≠ w6.heap.size := by have h1 := (Array.getElem?_eq_some_iff.1 Hx1.out).1; have h2 := hb.size; omega
  have hne23 : b2 ≠ w6.heap.size := by have h1 := (Array.getElem?_eq_some_iff.1 Hx2.out).1; have h2 := hb.size; omega
  obtain ⟨w7, hW⟩ : ∃ W, W = w6.alloc (.cells #[.slice Al_3 nl_3 cl_3, .slice At_3 nt_3 ct_3, .slice Ci_3 ni_3 ci_3, .slice Cb_3 nb_3 cb_3, .slice Ii_3 mi_3 di_3, .slice Ib_3 mb_3 db_3] 29) := ⟨_, rfl⟩
  obtain ⟨b3, hbn⟩ : ∃ b, b = w6.heap.size := ⟨_, rfl⟩
  have hbA : Below w6.heap.size w6 w7 := by rw [hW]; go_grown
  have hx : w7.heap[b3]? = some (.cells #[.slice Al_3 nl_3 cl_3, .slice At_3 nt_3 ct_3, .slice Ci_3 ni_3 ci_3, .slice Cb_3 nb_3 cb_3, .slice Ii_3 mi_3 di_3, .slice Ib_3 mb_3 db_3] 29 (0, 0)) := by rw [hW, hbn]; exact heap_new rfl
  have hb := hb.trans (hbA.mono hb.size)
  have Hx3 := Lib.hid hx
  have HA3 := Lib.hid ((hA.below hbA).more hbA.size)
  have HO3 := Lib.hid hO
  clear hx hA hO hbA
  rw [← hbn] at hne13
  rw [← hbn] at hne23
  go_upto_region 5 with fail
  rw [← hW, ← hbn]
  clear hW hbn
  replace Hbw := Lib.hid (Hbw.out.trans (hb.mono Hbw.out.size))
  replace Hx1 := Lib.hid ((hb.block _ (Array.getElem?_eq_some_iff.1 Hx1.out).1).trans Hx1.out)
  replace HA1 := Lib.hid ((HA1.out.below hb).more hb.size)
  replace Hx2 := Lib.hid ((hb.block _ (Array.getElem?_eq_some_iff.1 Hx2.out).1).trans Hx2.out)
  replace HA2 := Lib.hid ((HA2.out.below hb).more hb.size)
  clear hb
  have hov := over_law a b
  rw [← HM1.out, ← HM2.out, ← HM3.out] at hov
  have hr1 : M1.2.2.2 = 0 → rightC M1.1 = true := fun h => by rw [HM1.out] at h ⊢; exact make_right h
  have hr2 : M2.2.2.2 = 0 → rightC M2.1 = true := fun h => by rw [HM2.out] at h ⊢; exact make_right h
  have hr3 : M3.2.2.2 = 0 → rightC M3.1 = true := fun h => by rw [HM3.out] at h ⊢; exact make_right h
  clear HM1 HM2 HM3
  obtain ⟨d1, m1, k1, e1⟩ := M1
  obtain ⟨d2, m2, k2, e2⟩ := M2
  obtain ⟨d3, m3, k3, e3⟩ := M3
  simp only at hov hr1 hr2 hr3 HA1 HO1 HA2 HO2 HA3 HO3
  dsimp only
  rcases hov with ⟨g1, rfl, rfl, rfl⟩ | ⟨rfl, g2, rfl, rfl, rfl⟩ | ⟨rfl, rfl, rfl, hlaw⟩
  · have t1 : (e3 != 0) = true := by simpa using g1
    clear hr1 hr2 hr3
    go_wp2_with fail
    go_ret
    exact ⟨rfl, Hbw.out⟩
  · have t1 : (e3 != 0) = true := by simpa using g2
    clear hr1 hr2 hr3
    go_wp2_with fail
    go_ret
    exact ⟨rfl, Hbw.out⟩
  · have r1 := hr1 rfl
    have r2 := hr2 rfl
    have r3 := hr3 rfl
    obtain ⟨l1, l2⟩ := hlaw r
    clear hr1 hr2 hr3 hlaw
    have h := scalar_Right r w7
    have H := Lib.hid h
    clear h
    go_wp2_with fail
    refine H.out.mono ?_
    clear H
    rintro e w8 ⟨rfl, hb⟩
    replace Hbw := Lib.hid (Hbw.out.trans (hb.mono Hbw.out.size))
    replace Hx1 := Lib.hid ((hb.block _ (Array.getElem?_eq_some_iff.1 Hx1.out).1).trans Hx1.out)
    replace HA1 := Lib.hid ((HA1.out.below hb).more hb.size)
    replace Hx2 := Lib.hid ((hb.block _ (Array.getElem?_eq_some_iff.1 Hx2.out).1).trans Hx2.out)
    replace HA2 := Lib.hid ((HA2.out.below hb).more hb.size)
    replace Hx3 := Lib.hid ((hb.block _ (Array.getElem?_eq_some_iff.1 Hx3.out).1).trans Hx3.out)
    replace HA3 := Lib.hid ((HA3.out.below hb).more hb.size)
    clear hb
    rcases hs : scaR r with _ | _
    · clear l1 l2 r1 r2 r3
      go_wp2_with fail
      go_ret
      exact ⟨rfl, Hbw.out⟩
    · obtain ⟨p1, p2⟩ := low_ok r1 hs
      obtain ⟨p3, p4⟩ := low_ok r2 hs
      obtain ⟨p5, p6⟩ := low_ok r3 hs
      have hany := over_any d2.lo r
      have q1 : chkC d3 r = 0 := by unfold chkC; rw [if_pos r3, if_pos hs]
      obtain ⟨v1, v2⟩ := three_law q1
      have hnl := HA2.out.lo.len
      have HL := Lib.hid (And.intro l1 l2)
      have HP := Lib.hid (And.intro p1 (And.intro p2 (And.intro p3 (And.intro p4 (And.intro p5 p6)))))
      have HV := Lib.hid (And.intro v1 v2)
      have HRR := Lib.hid (And.intro r1 (And.intro r2 r3))
      have Hany := Lib.hid hany
      have hn1 : nl_2 ≤ 1000000 := HO2.out.nl
      clear l1 l2 p1 p2 p3 p4 p5 p6 v1 v2 r1 r2 r3 hany q1 hs
      go_upto_region 11 with fail
      go_loopw [20, 21] (fun ov i wr => ∃ j : Nat, j ≤ nl_2 ∧ i = .int .i64 (j : Int) ∧ ov = .bool ((d2.lo.take j).any fun x => decide (x.f = r)) ∧ Below w8.heap.size w8 wr) (fun _ i _ => nl_2 - (RowKit.intOf i).toNat)
      case atStart => exact ⟨0, Nat.zero_le _, rfl, rfl, Below.refl _ _⟩
      case round =>
        obtain ⟨j, hj, rfl, rfl, hbr⟩ := hrel
        obtain ⟨f0, _, _, _, _, _⟩ := cells6 ((hbr.block _ (Array.getElem?_eq_some_iff.1 Hx2.out).1).trans Hx2.out)
        rcases Nat.lt_or_ge j nl_2 with hlt | hge
        · obtain ⟨lb, lo, e, hlb, hlc⟩ := HA2.out.lo.at_ (by show 0 < nl_2; omega)
          have e : Al_2 = some ⟨lb, lo, none⟩ := e
          rw [e] at f0
          clear e
          have hjl : j < d2.lo.length := by rw [hnl]; exact hlt
          obtain ⟨A', n', c', z0, _, _, _⟩ := hlc j hjl
          have g0 := (cellOf hbr hlb).trans z0
          have hsnoc : (d2.lo.take (j + 1)).any (fun x => decide (x.f = r)) = ((d2.lo.take j).any (fun x => decide (x.f = r)) || decide (d2.lo[j].f = r)) := by
            rw [List.take_succ_eq_append_getElem hjl, List.any_append]; simp
          generalize d2.lo[j] = x at *
          obtain ⟨x, xt⟩ := x
          simp only at g0 hsnoc
          generalize (d2.lo.take j).any (fun x => decide (x.f = r)) = bl at *
          have Hsn := Lib.hid hsnoc
          clear hsnoc hlc z0
          rcases bl with _ | _
          · have hd : (x == r) = decide (x = r) := by rw [Bool.eq_iff_iff]; simp
            go_wp2_with fail
            go_roundw
            case rel => exact ⟨j + 1, by omega, by go_num, by rw [Hsn.out, Bool.false_or] <;> first | exact congrArg Value.bool hd | rfl, hbr⟩
            case measure => simp [RowKit.intOf]; omega
          · go_wp2_with fail
            go_roundw
            case rel => exact ⟨j + 1, by omega, by go_num, by rw [Hsn.out] <;> rfl, hbr⟩
            case measure => simp [RowKit.intOf]; omega
        · have hfull : ((d2.lo.take j).any fun x => decide (x.f = r)) = (lookM d2.lo r).isSome := by rw [List.take_of_length_le (by rw [hnl]; exact hge), Hany.out]
          rw [hfull]
          clear hfull f0
          obtain ⟨wL, hwL⟩ : ∃ W, W = wr := ⟨_, rfl⟩
          rw [← hwL] at hbr ⊢
          clear hwL
          have hb := hbr
          replace Hbw := Lib.hid (Hbw.out.trans (hb.mono Hbw.out.size))
          replace Hx1 := Lib.hid ((hb.block _ (Array.getElem?_eq_some_iff.1 Hx1.out).1).trans Hx1.out)
          replace HA1 := Lib.hid ((HA1.out.below hb).more hb.size)
          replace Hx2 := Lib.hid ((hb.block _ (Array.getElem?_eq_some_iff.1 Hx2.out).1).trans Hx2.out)
          replace HA2 := Lib.hid ((HA2.out.below hb).more hb.size)
          replace Hx3 := Lib.hid ((hb.block _ (Array.getElem?_eq_some_iff.1 Hx3.out).1).trans Hx3.out)
          replace HA3 := Lib.hid ((HA3.out.below hb).more hb.size)
          clear hb
          have f0 : wL.cell? ⟨b2, 0, none⟩ = some (.slice Al_2 nl_2 cl_2) := (cells6 Hx2.out).1
          rcases hov : (lookM d2.lo r).isSome with _ | _
          · go_upto_region 16 with fail
            obtain ⟨f0_1, f1_1, f2_1, f3_1, f4_1, f5_1⟩ := cells6 Hx1.out
            have h := fold_Lower ⟨Al_1, nl_1, cl_1, At_1, nt_1, ct_1, Ci_1, ni_1, ci_1, Cb_1, nb_1, cb_1, Ii_1, mi_1, di_1, Ib_1, mb_1, db_1⟩ d1 r wL HA1.out HO1.out
            rw [HP.out.1] at h
            have H := Lib.hid h
            clear h
            go_wp2_with fail
            refine H.out.mono ?_
            clear H
            clear f0_1 f1_1 f2_1 f3_1 f4_1 f5_1
            rintro e w901 ⟨⟨Px, nx, cx, rfl, _, hI⟩, hb⟩
            dsimp only at hI ⊢
            have hnx := hI.len
            have HIx := Lib.hid hI
            clear hI
            replace Hbw := Lib.hid (Hbw.out.trans (hb.mono Hbw.out.size))
            replace Hx1 := Lib.hid ((hb.block _ (Array.getElem?_eq_some_iff.1 Hx1.out).1).trans Hx1.out)
            replace HA1 := Lib.hid ((HA1.out.below hb).more hb.size)
            replace Hx2 := Lib.hid ((hb.block _ (Array.getElem?_eq_some_iff.1 Hx2.out).1).trans Hx2.out)
            replace HA2 := Lib.hid ((HA2.out.below hb).more hb.size)
            replace Hx3 := Lib.hid ((hb.block _ (Array.getElem?_eq_some_iff.1 Hx3.out).1).trans Hx3.out)
            replace HA3 := Lib.hid ((HA3.out.below hb).more hb.size)
            clear hb
            go_upto_region 17 with fail
            obtain ⟨f0_3, f1_3, f2_3, f3_3, f4_3, f5_3⟩ := cells6 Hx3.out
            have h := fold_Lower ⟨Al_3, nl_3, cl_3, At_3, nt_3, ct_3, Ci_3, ni_3, ci_3, Cb_3, nb_3, cb_3, Ii_3, mi_3, di_3, Ib_3, mb_3, db_3⟩ d3 r w901 HA3.out HO3.out
            rw [HP.out.2.2.2.2.1] at h
            have H := Lib.hid h
            clear h
            go_wp2_with fail
            refine H.out.mono ?_
            clear H
            clear f0_3 f1_3 f2_3 f3_3 f4_3 f5_3
            rintro e w902 ⟨⟨Py, ny, cy, rfl, _, hI⟩, hb⟩
            dsimp only at hI ⊢
            have HIy := Lib.hid hI
            clear hI
            replace Hbw := Lib.hid (Hbw.out.trans (hb.mono Hbw.out.size))
            replace Hx1 := Lib.hid ((hb.block _ (Array.getElem?_eq_some_iff.1 Hx1.out).1).trans Hx1.out)
            replace HA1 := Lib.hid ((HA1.out.below hb).more hb.size)
            replace Hx2 := Lib.hid ((hb.block _ (Array.getElem?_eq_some_iff.1 Hx2.out).1).trans Hx2.out)
            replace HA2 := Lib.hid ((HA2.out.below hb).more hb.size)
            replace Hx3 := Lib.hid ((hb.block _ (Array.getElem?_eq_some_iff.1 Hx3.out).1).trans Hx3.out)
            replace HA3 := Lib.hid ((HA3.out.below hb).more hb.size)
            replace HIx := Lib.hid ((HIx.out.below hb).more hb.size)
            clear hb
            go_upto_region 18 with fail
            obtain ⟨f0_1, f1_1, f2_1, f3_1, f4_1, f5_1⟩ := cells6 Hx1.out
            have h := fold_Title ⟨Al_1, nl_1, cl_1, At_1, nt_1, ct_1, Ci_1, ni_1, ci_1, Cb_1, nb_1, cb_1, Ii_1, mi_1, di_1, Ib_1, mb_1, db_1⟩ d1 r w902 HA1.out HO1.out
            rw [HP.out.2.1] at h
            have H := Lib.hid h
            clear h
            go_wp2_with fail
            refine H.out.mono ?_
            clear H
            clear f0_1 f1_1 f2_1 f3_1 f4_1 f5_1
            rintro e w903 ⟨⟨Pz, nz, cz, rfl, _, hI⟩, hb⟩
            dsimp only at hI ⊢
            have hnz := hI.len
            have HIz := Lib.hid hI
            clear hI
            replace Hbw := Lib.hid (Hbw.out.trans (hb.mono Hbw.out.size))
            replace Hx1 := Lib.hid ((hb.block _ (Array.getElem?_eq_some_iff.1 Hx1.out).1).trans Hx1.out)
            replace HA1 := Lib.hid ((HA1.out.below hb).more hb.size)
            replace Hx2 := Lib.hid ((hb.block _ (Array.getElem?_eq_some_iff.1 Hx2.out).1).trans Hx2.out)
            replace HA2 := Lib.hid ((HA2.out.below hb).more hb.size)
            replace Hx3 := Lib.hid ((hb.block _ (Array.getElem?_eq_some_iff.1 Hx3.out).1).trans Hx3.out)
            replace HA3 := Lib.hid ((HA3.out.below hb).more hb.size)
            replace HIx := Lib.hid ((HIx.out.below hb).more hb.size)
            replace HIy := Lib.hid ((HIy.out.below hb).more hb.size)
            clear hb
            go_upto_region 19 with fail
            obtain ⟨f0_3, f1_3, f2_3, f3_3, f4_3, f5_3⟩ := cells6 Hx3.out
            have h := fold_Title ⟨Al_3, nl_3, cl_3, At_3, nt_3, ct_3, Ci_3, ni_3, ci_3, Cb_3, nb_3, cb_3, Ii_3, mi_3, di_3, Ib_3, mb_3, db_3⟩ d3 r w903 HA3.out HO3.out
            rw [HP.out.2.2.2.2.2] at h
            have H := Lib.hid h
            clear h
            go_wp2_with fail
            refine H.out.mono ?_
            clear H
            clear f0_3 f1_3 f2_3 f3_3 f4_3 f5_3
            rintro e w904 ⟨⟨Pw, nw, cw, rfl, _, hI⟩, hb⟩
            dsimp only at hI ⊢
            have HIw := Lib.hid hI
            clear hI
            replace Hbw := Lib.hid (Hbw.out.trans (hb.mono Hbw.out.size))
            replace Hx1 := Lib.hid ((hb.block _ (Array.getElem?_eq_some_iff.1 Hx1.out).1).trans Hx1.out)
            replace HA1 := Lib.hid ((HA1.out.below hb).more hb.size)
            replace Hx2 := Lib.hid ((hb.block _ (Array.getElem?_eq_some_iff.1 Hx2.out).1).trans Hx2.out)
            replace HA2 := Lib.hid ((HA2.out.below hb).more hb.size)
            replace Hx3 := Lib.hid ((hb.block _ (Array.getElem?_eq_some_iff.1 Hx3.out).1).trans Hx3.out)
            replace HA3 := Lib.hid ((HA3.out.below hb).more hb.size)
            replace HIx := Lib.hid ((HIx.out.below hb).more hb.size)
            replace HIy := Lib.hid ((HIy.out.below hb).more hb.size)
            replace HIz := Lib.hid ((HIz.out.below hb).more hb.size)
            clear hb
            obtain ⟨v1, v2⟩ := HV.out
            have hle := HL.out.2 hov
            rw [hle.1] at v1
            rw [hle.2] at v2
            unfold allM at v1 v2
            simp only [Bool.and_eq_true, decide_eq_true_eq] at v1 v2
            have hnx2 : nx ≤ 1000000 := by have := v1.2; omega
            have hnz2 : nz ≤ 1000000 := by have := v2.2; omega
            have h := ref_Ints Px Py nx cx ny cy (becM d1.lo r) (becM d3.lo r) w904 HIx.out HIy.out hnx2
            rw [decide_eq_true hle.1.symm] at h
            have H := Lib.hid h
            clear h
            go_wp2_with fail
            refine H.out.mono ?_
            clear H
            rintro e w905 ⟨rfl, hb⟩
            replace Hbw := Lib.hid (Hbw.out.trans (hb.mono Hbw.out.size))
            replace Hx1 := Lib.hid ((hb.block _ (Array.getElem?_eq_some_iff.1 Hx1.out).1).trans Hx1.out)
            replace HA1 := Lib.hid ((HA1.out.below hb).more hb.size)
            replace Hx2 := Lib.hid ((hb.block _ (Array.getElem?_eq_some_iff.1 Hx2.out).1).trans Hx2.out)
            replace HA2 := Lib.hid ((HA2.out.below hb).more hb.size)
            replace Hx3 := Lib.hid ((hb.block _ (Array.getElem?_eq_some_iff.1 Hx3.out).1).trans Hx3.out)
            replace HA3 := Lib.hid ((HA3.out.below hb).more hb.size)
            replace HIx := Lib.hid ((HIx.out.below hb).more hb.size)
            replace HIy := Lib.hid ((HIy.out.below hb).more hb.size)
            replace HIz := Lib.hid ((HIz.out.below hb).more hb.size)
            replace HIw := Lib.hid ((HIw.out.below hb).more hb.size)
            clear hb
            have h := ref_Ints Pz Pw nz cz nw cw (becM d1.ti r) (becM d3.ti r) w905 HIz.out HIw.out hnz2
            rw [decide_eq_true hle.2.symm] at h
            have H := Lib.hid h
            clear h
            go_wp2_with fail
            refine H.out.mono ?_
            clear H
            rintro e w906 ⟨rfl, hb⟩
            replace Hbw := Lib.hid (Hbw.out.trans (hb.mono Hbw.out.size))
            replace Hx1 := Lib.hid ((hb.block _ (Array.getElem?_eq_some_iff.1 Hx1.out).1).trans Hx1.out)
            replace HA1 := Lib.hid ((HA1.out.below hb).more hb.size)
            replace Hx2 := Lib.hid ((hb.block _ (Array.getElem?_eq_some_iff.1 Hx2.out).1).trans Hx2.out)
            replace HA2 := Lib.hid ((HA2.out.below hb).more hb.size)
            replace Hx3 := Lib.hid ((hb.block _ (Array.getElem?_eq_some_iff.1 Hx3.out).1).trans Hx3.out)
            replace HA3 := Lib.hid ((HA3.out.below hb).more hb.size)
            replace HIx := Lib.hid ((HIx.out.below hb).more hb.size)
            replace HIy := Lib.hid ((HIy.out.below hb).more hb.size)
            replace HIz := Lib.hid ((HIz.out.below hb).more hb.size)
            replace HIw := Lib.hid ((HIw.out.below hb).more hb.size)
            clear hb
            go_wp2_with fail
            go_ret
            exact ⟨rfl, Hbw.out⟩
          · have d6 := Hx1.out
            obtain ⟨i0, i1, i2, i3, i4, i5⟩ := cells6 d6
            have s0 := frozen_blk d6 0
            have s1 := frozen_blk d6 1
            have s2 := frozen_blk d6 2
            have s3 := frozen_blk d6 3
            have s4 := frozen_blk d6 4
            have s5 := frozen_blk d6 5
            obtain ⟨k0, k1, k2, k3, k4, k5⟩ := cells6 Hx2.out
            obtain ⟨g1, g2, g3, g4⟩ := six_stored (w := w) (.slice Al_2 nl_2 cl_2) (.slice At_2 nt_2 ct_2) (.slice Ci_2 ni_2 ci_2) (.slice Cb_2 nb_2 cb_2) (.slice Ii_2 mi_2 di_2) (.slice Ib_2 mb_2 db_2) d6 Hbw.out Hb1.out
            obtain ⟨w901, hW⟩ : ∃ W, W = (((((wL.setCell ⟨b1, 0, none⟩ (.slice Al_2 nl_2 cl_2)).setCell ⟨b1, 1, none⟩ (.slice At_2 nt_2 ct_2)).setCell ⟨b1, 2, none⟩ (.slice Ci_2 ni_2 ci_2)).setCell ⟨b1, 3, none⟩ (.slice Cb_2 nb_2 cb_2)).setCell ⟨b1, 4, none⟩ (.slice Ii_2 mi_2 di_2)).setCell ⟨b1, 5, none⟩ (.slice Ib_2 mb_2 db_2) := ⟨_, rfl⟩
            rw [← hW] at g1 g2 g3 g4
            have hno : ∀ q, q = b1 → ∀ o i, wL.cell? ⟨q, o, none⟩ ≠ some (.int .i64 i) := fun q hq o i => by
              subst hq
              rw [cell_blk d6]
              rcases o with _ | _ | _ | _ | _ | _ | o <;> simp
            have hno2 : ∀ B' q, q = b1 → ∀ o A' n' c', wL.cell? ⟨q, o, none⟩ = some (.slice A' n' c') → ∀ l : List Int, l.length = 256 → ¬ Ints wL B' A' n' l := fun B' q hq o A' n' c' hc l hl => by
              subst hq
              exact Cas.no256 HA1.out HRR.out.1 d6 hc hl
            replace HA2 := Lib.hid (show CasW w901 w901.heap.size ⟨Al_2, nl_2, cl_2, At_2, nt_2, ct_2, Ci_2, ni_2, ci_2, Cb_2, nb_2, cb_2, Ii_2, mi_2, di_2, Ib_2, mb_2, db_2⟩ d2 from Cas.keptR HA2.out HRR.out.2.1 g3 hno (hno2 _) (Nat.le_of_eq g4.symm))
            replace HA3 := Lib.hid (show CasW w901 w901.heap.size ⟨Al_3, nl_3, cl_3, At_3, nt_3, ct_3, Ci_3, ni_3, ci_3, Cb_3, nb_3, cb_3, Ii_3, mi_3, di_3, Ib_3, mb_3, db_3⟩ d3 from Cas.keptR HA3.out HRR.out.2.2 g3 hno (hno2 _) (Nat.le_of_eq g4.symm))
            replace Hx3 := Lib.hid ((g3 b3 (Ne.symm hne13)).trans Hx3.out)
            clear HA1
            replace Hx1 := Lib.hid g1
            replace Hbw := Lib.hid g2
            clear g1 g2 g3 g4 hno hno2 d6 Hx2
            go_upto_region 16 with fail
            rw [← hW]
            clear hW i0 i1 i2 i3 i4 i5 s0 s1 s2 s3 s4 s5 k0 k1 k2 k3 k4 k5
            obtain ⟨f0_1, f1_1, f2_1, f3_1, f4_1, f5_1⟩ := cells6 Hx1.out
            have h := fold_Lower ⟨Al_2, nl_2, cl_2, At_2, nt_2, ct_2, Ci_2, ni_2, ci_2, Cb_2, nb_2, cb_2, Ii_2, mi_2, di_2, Ib_2, mb_2, db_2⟩ d2 r w901 HA2.out HO2.out
            rw [HP.out.2.2.1] at h
            have H := Lib.hid h
            clear h
            go_wp2_with fail
            refine H.out.mono ?_
            clear H
            clear f0_1 f1_1 f2_1 f3_1 f4_1 f5_1
            rintro e w902 ⟨⟨Px, nx, cx, rfl, _, hI⟩, hb⟩
            dsimp only at hI ⊢
            have hnx := hI.len
            have HIx := Lib.hid hI
            clear hI
            replace Hbw := Lib.hid (Hbw.out.trans (hb.mono Hbw.out.size))
            replace Hx1 := Lib.hid ((hb.block _ (Array.getElem?_eq_some_iff.1 Hx1.out).1).trans Hx1.out)
            replace HA2 := Lib.hid ((HA2.out.below hb).more hb.size)
            replace Hx3 := Lib.hid ((hb.block _ (Array.getElem?_eq_some_iff.1 Hx3.out).1).trans Hx3.out)
            replace HA3 := Lib.hid ((HA3.out.below hb).more hb.size)
            clear hb
            go_upto_region 17 with fail
            obtain ⟨f0_3, f1_3, f2_3, f3_3, f4_3, f5_3⟩ := cells6 Hx3.out
            have h := fold_Lower ⟨Al_3, nl_3, cl_3, At_3, nt_3, ct_3, Ci_3, ni_3, ci_3, Cb_3, nb_3, cb_3, Ii_3, mi_3, di_3, Ib_3, mb_3, db_3⟩ d3 r w902 HA3.out HO3.out
            rw [HP.out.2.2.2.2.1] at h
            have H := Lib.hid h
            clear h
            go_wp2_with fail
            refine H.out.mono ?_
            clear H
            clear f0_3 f1_3 f2_3 f3_3 f4_3 f5_3
            rintro e w903 ⟨⟨Py, ny, cy, rfl, _, hI⟩, hb⟩
            dsimp only at hI ⊢
            have HIy := Lib.hid hI
            clear hI
            replace Hbw := Lib.hid (Hbw.out.trans (hb.mono Hbw.out.size))
            replace Hx1 := Lib.hid ((hb.block _ (Array.getElem?_eq_some_iff.1 Hx1.out).1).trans Hx1.out)
            replace HA2 := Lib.hid ((HA2.out.below hb).more hb.size)
            replace Hx3 := Lib.hid ((hb.block _ (Array.getElem?_eq_some_iff.1 Hx3.out).1).trans Hx3.out)
            replace HA3 := Lib.hid ((HA3.out.below hb).more hb.size)
            replace HIx := Lib.hid ((HIx.out.below hb).more hb.size)
            clear hb
            go_upto_region 18 with fail
            obtain ⟨f0_1, f1_1, f2_1, f3_1, f4_1, f5_1⟩ := cells6 Hx1.out
            have h := fold_Title ⟨Al_2, nl_2, cl_2, At_2, nt_2, ct_2, Ci_2, ni_2, ci_2, Cb_2, nb_2, cb_2, Ii_2, mi_2, di_2, Ib_2, mb_2, db_2⟩ d2 r w903 HA2.out HO2.out
            rw [HP.out.2.2.2.1] at h
            have H := Lib.hid h
            clear h
            go_wp2_with fail
            refine H.out.mono ?_
            clear H
            clear f0_1 f1_1 f2_1 f3_1 f4_1 f5_1
            rintro e w904 ⟨⟨Pz, nz, cz, rfl, _, hI⟩, hb⟩
            dsimp only at hI ⊢
            have hnz := hI.len
            have HIz := Lib.hid hI
            clear hI
            replace Hbw := Lib.hid (Hbw.out.trans (hb.mono Hbw.out.size))
            replace Hx1 := Lib.hid ((hb.block _ (Array.getElem?_eq_some_iff.1 Hx1.out).1).trans Hx1.out)
            replace HA2 := Lib.hid ((HA2.out.below hb).more hb.size)
            replace Hx3 := Lib.hid ((hb.block _ (Array.getElem?_eq_some_iff.1 Hx3.out).1).trans Hx3.out)
            replace HA3 := Lib.hid ((HA3.out.below hb).more hb.size)
            replace HIx := Lib.hid ((HIx.out.below hb).more hb.size)
            replace HIy := Lib.hid ((HIy.out.below hb).more hb.size)
            clear hb
            go_upto_region 19 with fail
            obtain ⟨f0_3, f1_3, f2_3, f3_3, f4_3, f5_3⟩ := cells6 Hx3.out
            have h := fold_Title ⟨Al_3, nl_3, cl_3, At_3, nt_3, ct_3, Ci_3, ni_3, ci_3, Cb_3, nb_3, cb_3, Ii_3, mi_3, di_3, Ib_3, mb_3, db_3⟩ d3 r w904 HA3.out HO3.out
            rw [HP.out.2.2.2.2.2] at h
            have H := Lib.hid h
            clear h
            go_wp2_with fail
            refine H.out.mono ?_
            clear H
            clear f0_3 f1_3 f2_3 f3_3 f4_3 f5_3
            rintro e w905 ⟨⟨Pw, nw, cw, rfl, _, hI⟩, hb⟩
            dsimp only at hI ⊢
            have HIw := Lib.hid hI
            clear hI
            replace Hbw := Lib.hid (Hbw.out.trans (hb.mono Hbw.out.size))
            replace Hx1 := Lib.hid ((hb.block _ (Array.getElem?_eq_some_iff.1 Hx1.out).1).trans Hx1.out)
            replace HA2 := Lib.hid ((HA2.out.below hb).more hb.size)
            replace Hx3 := Lib.hid ((hb.block _ (Array.getElem?_eq_some_iff.1 Hx3.out).1).trans Hx3.out)
            replace HA3 := Lib.hid ((HA3.out.below hb).more hb.size)
            replace HIx := Lib.hid ((HIx.out.below hb).more hb.size)
            replace HIy := Lib.hid ((HIy.out.below hb).more hb.size)
            replace HIz := Lib.hid ((HIz.out.below hb).more hb.size)
            clear hb
            obtain ⟨v1, v2⟩ := HV.out
            have hle := HL.out.1 hov
            rw [hle.1] at v1
            rw [hle.2] at v2
            unfold allM at v1 v2
            simp only [Bool.and_eq_true, decide_eq_true_eq] at v1 v2
            have hnx2 : nx ≤ 1000000 := by have := v1.2; omega
            have hnz2 : nz ≤ 1000000 := by have := v2.2; omega
            have h := ref_Ints Px Py nx cx ny cy (becM d2.lo r) (becM d3.lo r) w905 HIx.out HIy.out hnx2
            rw [decide_eq_true hle.1.symm] at h
            have H := Lib.hid h
            clear h
            go_wp2_with fail
            refine H.out.mono ?_
            clear H
            rintro e w906 ⟨rfl, hb⟩
            replace Hbw := Lib.hid (Hbw.out.trans (hb.mono Hbw.out.size))
            replace Hx1 := Lib.hid ((hb.block _ (Array.getElem?_eq_some_iff.1 Hx1.out).1).trans Hx1.out)
            replace HA2 := Lib.hid ((HA2.out.below hb).more hb.size)
            replace Hx3 := Lib.hid ((hb.block _ (Array.getElem?_eq_some_iff.1 Hx3.out).1).trans Hx3.out)
            replace HA3 := Lib.hid ((HA3.out.below hb).more hb.size)
            replace HIx := Lib.hid ((HIx.out.below hb).more hb.size)
            replace HIy := Lib.hid ((HIy.out.below hb).more hb.size)
            replace HIz := Lib.hid ((HIz.out.below hb).more hb.size)
            replace HIw := Lib.hid ((HIw.out.below hb).more hb.size)
            clear hb
            have h := ref_Ints Pz Pw nz cz nw cw (becM d2.ti r) (becM d3.ti r) w906 HIz.out HIw.out hnz2
            rw [decide_eq_true hle.2.symm] at h
            have H := Lib.hid h
            clear h
            go_wp2_with fail
            refine H.out.mono ?_
            clear H
            rintro e w907 ⟨rfl, hb⟩
            replace Hbw := Lib.hid (Hbw.out.trans (hb.mono Hbw.out.size))
            replace Hx1 := Lib.hid ((hb.block _ (Array.getElem?_eq_some_iff.1 Hx1.out).1).trans Hx1.out)
            replace HA2 := Lib.hid ((HA2.out.below hb).more hb.size)
            replace Hx3 := Lib.hid ((hb.block _ (Array.getElem?_eq_some_iff.1 Hx3.out).1).trans Hx3.out)
            replace HA3 := Lib.hid ((HA3.out.below hb).more hb.size)
            replace HIx := Lib.hid ((HIx.out.below hb).more hb.size)
            replace HIy := Lib.hid ((HIy.out.below hb).more hb.size)
            replace HIz := Lib.hid ((HIz.out.below hb).more hb.size)
            replace HIw := Lib.hid ((HIw.out.below hb).more hb.size)
            clear hb
            go_wp2_with fail
            go_ret
            exact ⟨rfl, Hbw.out⟩
end Go.Vir


/- For any two texts and number: what the second file says counts over the first. (The listed variables are tied to the text.) -/
namespace Go.Proofs.YtfbgcoeialdhhaaGreatDoor
open Go Go.Vir Go.RowKit Go.Proofs Go.ChangeShapes Go.WideShapes Go.ChangeAt

set_option maxHeartbeats 800000 in
set_option maxRecDepth 100000 in
theorem over_lifted (os : Os) (started : os.Started) (H : Type) (enc : TypeId × Value → H) :
    ReturnsInHanded {} Tryz.checked os 4 .any (fun w args => (Rows.foldOverSpec.pre enc Tryz.prog Tryz.f4 [] false w args ∧ laidMetH Tryz.prog laidF w) ∧ sizedMet enc Tryz.prog Tryz.f4 (OpenSpec.ofChange Rows.foldOverSpec) false w args)
      (Rows.foldOverSpec.post enc Tryz.prog Tryz.f4 false true false false) := by
  refine returns_shaped (C := Tryz.checked) (X := fun w _ => laidMetH Tryz.prog laidF w) (fun _ _ _ hh h => h.of_heap hh) own started (by kernel_rfl) Tryz.func4
    (ChangeSpec.witness_shaped (enc := enc) (C := Tryz.checked) (os := os) (X := fun w _ => laidMetH Tryz.prog laidF w) false (worldF os) #[.string ⟨#[]⟩, .string ⟨#[]⟩, .int .i64 0] 8 (worldF_os os) (worldF_shaped os) (by kernel_rfl) (by kernel_rfl) (by kernel_rfl) (worldF_met os _)) ?_
  intro W base args ds gs before hval0 hW hsh hL
  have hval : ∀ (j : Nat) t v, Tryz.f4.params[j]? = some t → args[j]? = some v → Value.okWide Tryz.prog W .any base t v := hval0
  have hW' := hW
  obtain ⟨p, q, hA0, hV, rfl, _, _⟩ := hW
  have hA : DataW.TrodAll enc Tryz.prog W 0 (fun _ => true) true Tryz.f4.params.toList args.toList ds p := hA0
  rw [Tryz.params4] at hA hval
  obtain ⟨v0, v1, v2, d0, d1, d2, p0, p1, p2, rfl, rfl, rfl, h0, h1, h2⟩ := trodAll_three hA
  obtain ⟨rfl, rfl⟩ := trodVars_none hV
  have hlt : ∀ x ∈ p0 ++ p1 ++ p2, x.block < W.heap.size := fun x hx => by simpa using hW'.lt x (by simpa using hx)
  have hargs : ∀ (W' : World), Below W.heap.size W W' → DataW.TrodAll enc Tryz.prog W' 0 (fun b => decide (b < W.heap.size)) true #[9, 9, 3].toList #[v0, v1, v2].toList [d0, d1, d2] (p0 ++ (p1 ++ p2)) := fun W' hn =>
    trodAll_mk3 (Below.trod laidOut (by kernel_rfl) (of_decide_eq_true (by kernel_rfl)) h0 hn (fun x hx => hlt x (by simp [hx]))) (Below.trod laidOut (by kernel_rfl) (of_decide_eq_true (by kernel_rfl)) h1 hn (fun x hx => hlt x (by simp [hx]))) (Below.trod laidOut (by kernel_rfl) (of_decide_eq_true (by kernel_rfl)) h2 hn (fun x hx => hlt x (by simp [hx])))
  have hG := globF_of_laid hsh hL
  have key : Calls Tryz.prog 4 #[v0, v1, v2] W fun e W' => e = .returned (.bool true) ∧ Below W.heap.size W W' := by
    obtain ⟨s, rfl, hs⟩ := open_text (hval 0 9 v0 rfl rfl) h0
    obtain ⟨s2, rfl, hs2⟩ := open_text (hval 1 9 v1 rfl rfl) h1
    obtain ⟨k, rfl, _, _, _⟩ := open_int Tryz.underlying3 (hval 2 3 v2 rfl rfl) h2
    exact law_foldover s s2 k W hG hs hs2
  refine key.mono fun e W' ⟨he, hn⟩ => ?_
  subst he
  exact ⟨_, rfl, _, _, _, [], _, [], hW', trodAll_mk1 (shut_bool Tryz.underlying4 true), hargs _ hn, rfl, hn.frame _, fun h => by cases h⟩

set_option maxRecDepth 100000 in
set_option maxHeartbeats 4000000 in
theorem over_closed : joinedFacts Tryz.prog 4 Tryz.f4 Rows.foldOverSpec Rows.foldOverRow = true := by
  unfold joinedFacts
  repeat' (with_reducible apply and_mk)
  all_goals as_aux_lemma => kernel_rfl
set_option maxHeartbeats 4000000 in
theorem over_holds : Rows.FoldOverSaid :=
  OpenClaim.holds_of_wide 4 Tryz.f4 rfl rfl rfl rfl rfl rfl rfl ⟨rfl, rfl, rfl, rfl, rfl⟩ rfl rfl rfl rfl rfl (by kernel_rfl) Tryz.func4 over_closed
    (of_decide_eq_true (by kernel_rfl)) (by unfold Func.isWrapper; first | (rw [if_pos (by decide +kernel)]; kernel_rfl) | (rw [if_neg (by decide +kernel)]; exact ⟨rfl, rfl⟩))
    (fun os started H enc _ => over_lifted os started H enc)

theorem over_card : Rows.FoldOverCardSaid :=
  Claim7.holds_tied_plain_at .later [] [.data, .handle, .sentinel, .sentinel, .sentinel, .pinned] true (true, "8a3d459157c03a40dede506b41f2d01909352594c40e7c19881fac7cd10dec03") true
    over_holds (fun _ h => by cases h) (by kernel_rfl) (fun _ h => by cases h) foldOver_row_tie rfl ⟨rfl, rfl⟩ (by kernel_rfl) rfl
    (fun f fn hf hfn => by
      obtain rfl : f = 4 := Option.some.inj ((show Tryz.prog.funcNamed "virama/viramalaw16.FoldOver" = some 4 by kernel_rfl).symm.trans hf) |>.symm
      obtain rfl : fn = Tryz.f4 := (Option.some.inj (Tryz.func4.symm.trans hfn)).symm
      exact ⟨by kernel_rfl, fun j t ht => by
        rw [Tryz.params4] at ht
        have hm : t ∈ [9, 9, 3] := by simpa using Array.mem_of_getElem? ht
        have hall : ([9, 9, 3].all fun u => !Tryz.prog.wantsStandIn u) = true := by kernel_rfl
        exact (show Tryz.prog.wantsStandIn t = false by simpa using List.all_eq_true.1 hall t hm)⟩)
    (by kernel_rfl)
#print axioms over_card
end Go.Proofs.YtfbgcoeialdhhaaGreatDoor

