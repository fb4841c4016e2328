/- Joined texts: Rg7, Rg9, Rga, Rr1. -/
import Derived.Test.YthkgnhfhjhcecaaGreatDoorBk
import Derived.Test.YthkgnhfhjhcecaaGreatDoorBg
import Derived.Test.YthkgnhfhjhcecaaGreatDoorBe
import Derived.Test.YthkgnhfhjhcecaaGreatDoorBi
/- The reference's sets: viramaref08.Parse. -/
namespace Go.Vir
open Go Go.RowKit Go.Proofs Go.Shelf
attribute [local go_sem] Oper.semAt_some

set_option maxRecDepth 100000 in
set_option maxHeartbeats 4000000 in
theorem ref_Parse8 (s : List UInt8) (A : Option Addr) (n c : Nat) (ss : List (List UInt8)) (w : World) (hn : n ≤ 1000000) (hnc : n ≤ c) (hz : Strs w w.heap.size A n ss) (hs : ∀ x ∈ ss, x.length ≤ 1000) (hl : s.length ≤ 1000000) :
    Calls Tryz.prog 209 #[.string ⟨s.toArray⟩, .slice A n c] w fun e w' => e = .returned (.tuple #[.int .i64 (cpB s ss).1, .int .i64 (cpB s ss).2]) ∧ Below w.heap.size w w' := by
  have hzl := hz.len
  have hcp : cpB s ss = (if namesB ss then (match parseSetB s ss with | some x => ((x, 0) : Int × Int) | none => ((0, 70) : Int × Int)) else ((0, 2) : Int × Int) : Int × Int) := rfl
  have hps : parseSetB s ss = if s = [46] then some (2 ^ n - 1) else match valB s ss 0 with
      | some c => some (2 ^ c.toNat)
      | none => if (insideB s).2 = false then none else
        (if Lib.trimPrefix (insideB s).1 [94] = [] then some 0 else addB ss (splitL 32 (Lib.trimPrefix (insideB s).1 [94])) 0).map fun x => if Lib.hasPrefix (insideB s).1 [94] then notB x n else x := by
    unfold parseSetB
    rw [hzl]
    rfl
  have hnm := ref_Names A n c ss w hn hnc hz (fun x hx => by have := hs x hx; omega)
  have hval := fun t W (hW : Below w.heap.size w W) => ref_Value A n c ss t W ((hz.below hW).more hW.size) hn
  have hnot := fun x W => ref_Not8 x (n : Int) W
  have hin := inside_R s
  generalize cpB s ss = R at *
  generalize parseSetB s ss = PS at *
  have Hcp := Lib.hid hcp
  have Hps := Lib.hid hps
  have Hnm := Lib.hid hnm
  have Hval := Lib.hid hval
  have Hnot := Lib.hid hnot
  have Hin := Lib.hid hin
  have Hzl := Lib.hid hzl
  clear hcp hps hnm hval hnot hzl hin hs hz
  rcases h1 : namesB ss with _ | _
  · have hR : R = (0, 2) := by rw [Hcp.out, h1]; rfl
    have HR := Lib.hid hR
    rw [h1] at Hnm
    clear hR h1
    go_enter Tryz.func209, Tryz.ntmps209
    go_wp2_with fail
    refine Hnm.out.mono ?_
    rintro e w1 ⟨rfl, hb1⟩
    go_wp2_with fail
    go_ret2
    exact ⟨by rw [HR.out]; rfl, hb1⟩
  · rw [h1] at Hnm Hcp
    have hn32 := (namesB_nodup h1).2.2
    have hn1' := (namesB_nodup h1).2.1
    rw [Hzl.out] at hn32 hn1'
    clear h1
    by_cases hs46 : s = [46]
    · have hR : R = (2 ^ n - 1, 0) := by rw [Hcp.out, if_pos rfl, Hps.out, if_pos hs46]
      have hwo := fun W => ref_worth n W (by omega)
      have hP : 1 ≤ (2 : Int) ^ n ∧ (2 : Int) ^ n ≤ 4294967296 := by
        have h1 : 2 ^ n ≤ 2 ^ 32 := Nat.pow_le_pow_right (by decide) hn32
        have h2 : (2 : Int) ^ n = ((2 ^ n : Nat) : Int) := by simp
        have h3 := @Nat.one_le_two_pow n
        rw [h2]; omega
      generalize (2 : Int) ^ n = P at *
      have HR := Lib.hid hR
      have Hwo := Lib.hid hwo
      subst hs46
      clear hR hwo
      go_enter Tryz.func209, Tryz.ntmps209
      go_wp2_with fail
      refine Hnm.out.mono ?_
      rintro e w1 ⟨rfl, hb1⟩
      go_wp2_with fail
      refine (Hwo.out _).mono ?_
      rintro e w2 ⟨rfl, rfl⟩
      go_wp2_with fail
      go_ret2
      exact ⟨by rw [HR.out]; rfl, hb1⟩
    · have hs46b : (s == [46]) = false := by rw [beq_eq_false_iff_ne]; exact hs46
      have hv0 := Hval.out s
      rcases hv : valB s ss 0 with _ | j
      · rw [hv] at hv0
        have Hv0 := Lib.hid hv0
        have hPS : PS = if (insideB s).2 = false then none else
          (if Lib.trimPrefix (insideB s).1 [94] = [] then some 0 else addB ss (splitL 32 (Lib.trimPrefix (insideB s).1 [94])) 0).map fun x => if Lib.hasPrefix (insideB s).1 [94] then notB x n else x := by rw [Hps.out, if_neg hs46, hv]
        have HPS := Lib.hid hPS
        clear hPS hv0 hv hs46
        rcases Nat.lt_or_ge s.length 2 with hl2 | hl2
        · have hR : R = (0, 70) := by
            rw [Hcp.out, if_pos rfl, HPS.out, if_pos]
            rw [Hin.out.1, decide_eq_false (show ¬ 2 ≤ s.length by omega)]; rfl
          have HR := Lib.hid hR
          clear hR
          go_enter Tryz.func209, Tryz.ntmps209
          go_wp2_with fail
          refine Hnm.out.mono ?_
          rintro e w1 ⟨rfl, hb1⟩
          go_wp2_with fail
          refine (Hv0.out _ hb1).mono ?_
          rintro e w2 ⟨rfl, rfl⟩
          go_wp2_with fail
          go_ret2
          exact ⟨by rw [HR.out]; rfl, hb1⟩
        · have h0l : 0 < s.length := by omega
          have hll : s.length - 1 < s.length := by omega
          have hx0 : (((⟨s.toArray⟩ : ByteArray)[0]'h0l).toNat : Int) = (s[0].toNat : Int) := rfl
          have hx1 : (((⟨s.toArray⟩ : ByteArray)[s.length - 1]'hll).toNat : Int) = (s[s.length - 1].toNat : Int) := rfl
          have hq1 : 1 ≤ (s.length : Int) := by omega
          have hq2 : (s.length : Int) - 1 < (s.length : Int) := by omega
          have hq3 : ((s.length : Int) - 1).toNat = s.length - 1 := by omega
          have hhd : s.head? = some s[0] := by rw [List.head?_eq_getElem?, List.getElem?_eq_getElem h0l]
          have hls : s.getLast? = some (s[s.length - 1]) := by rw [List.getLast?_eq_getElem?, List.getElem?_eq_getElem hll]
          have hin1 := Hin.out.1
          rw [decide_eq_true hl2, hhd, hls] at hin1
          have Hin1 := Lib.hid hin1
          clear hin1 hhd hls
          by_cases hb91 : s[0] = 91
          · have hy0 : (s[0].toNat : Int) = 91 := by rw [hb91]; rfl
            by_cases hb93 : s[s.length - 1] = 93
            · have hy1 : (s[s.length - 1].toNat : Int) = 93 := by rw [hb93]; rfl
              have htr : (insideB s).2 = true := by rw [Hin1.out, hb91, hb93]; rfl
              have ht := Hin.out.2 htr
              have hPS2 := HPS.out
              rw [htr, if_neg (by simp), ht] at hPS2
              obtain ⟨p1, p2⟩ := prefix_R ((s.drop 1).take (s.length - 2)) 94
              rw [p1, p2] at hPS2
              have htl : ((s.drop 1).take (s.length - 2)).length ≤ 1000000 := by simp; omega
              have Htl : Hid ((s.drop 1).take (s.length - 1 - 1) = (s.drop 1).take (s.length - 2)) := Lib.hid (by rw [show s.length - 1 - 1 = s.length - 2 by omega])
              have hRu := Hcp.out
              rw [if_pos rfl, hPS2] at hRu
              have HRu0 := Lib.hid hRu
              clear hRu hPS2 p1 p2 ht htr hb91 hb93 HPS
              go_enter Tryz.func209, Tryz.ntmps209
              go_wp2_with fail
              refine Hnm.out.mono ?_
              rintro e w1 ⟨rfl, hb1⟩
              go_wp2_with fail
              refine (Hv0.out _ hb1).mono ?_
              rintro e w2 ⟨rfl, rfl⟩
              clear Hv0
              go_upto_region 11 with fail
              simp only [text_seg, Htl.out]
              generalize (s.drop 1).take (s.length - 2) = t at *
              rcases hth : decide (t.head? = some 94) with _ | _
              · have hth0 : ¬ t.head? = some 94 := of_decide_eq_false hth
                have HRu : Hid (R = (match (if t = [] then some 0 else addB ss (splitL 32 t) 0).map (fun x => x) with | some x => ((x, 0) : Int × Int) | none => ((0, 70) : Int × Int))) := Lib.hid (by rw [HRu0.out]; simp [hth0])
                clear HRu0 hth
                clear Htl hx0 hx1 hy0 hy1 hq1 hq2 hq3 hll h0l hl2 hl hs46b Hin1 Hin Hcp Hps
                have hne94 : ∀ (h : 0 < t.length), ((((⟨t.toArray⟩ : ByteArray)[0]'h).toNat : Int) == 94) = false := fun h => by
                  rw [beq_eq_false_iff_ne]
                  intro h9
                  apply hth0
                  rw [List.head?_eq_getElem?, List.getElem?_eq_getElem h]
                  exact congrArg some (UInt8.toNat.inj (by show t[0].toNat = 94; have : (((⟨t.toArray⟩ : ByteArray)[0]'h).toNat : Int) = (t[0].toNat : Int) := rfl; omega))
                clear hth0
                obtain ⟨u, rfl⟩ : ∃ u, u = t := ⟨t, rfl⟩
                by_cases hue : u = []
                · have hR : R = (0, 0) := by rw [HRu.out, if_pos hue]; rfl
                  have HR2 := Lib.hid hR
                  subst hue
                  clear hR HRu
                  go_wp2_with fail
                  go_loop [9, 11] (fun v i => v = .int .i64 0 ∧ i = .int .i64 0) (fun _ _ => 0)
                  case atStart => exact ⟨rfl, rfl⟩
                  case round =>
                    obtain ⟨rfl, rfl⟩ := hrel
                    go_wp2_with fail
                    go_ret2
                    exact ⟨by rw [HR2.out]; rfl, hb1⟩
                · have hum : u.isEmpty = false := by cases hq : u with | nil => exact absurd hq hue | cons a b => rfl
                  have hup : 0 < u.length := by cases u with | nil => exact absurd rfl hue | cons a b => simp
                  have hi94 := hne94 hup
                  clear hne94
                  have hsp := fun W => ref_Split u 32 W (by omega)
                  have Hsp := Lib.hid hsp
                  have hsl := splitL_length 32 u
                  have HR : Hid (R = (match (addB ss (splitL 32 u) 0).map (fun x => x) with | some x => ((x, 0) : Int × Int) | none => ((0, 70) : Int × Int))) := Lib.hid (by rw [HRu.out, if_neg hue])
                  generalize splitL 32 u = ts at *
                  clear hsp HRu
                  go_wp2_with fail
                  refine (Hsp.out _).mono ?_
                  rintro e wl ⟨A2, n2, d2, rfl, hnd2, hS2, hb2⟩
                  have hbl : Below w.heap.size w wl := hb1.trans (hb2.mono hb1.size)
                  have hn2l := hS2.len
                  have hn2b : n2 ≤ 1000001 := by omega
                  clear hn2l hsl
                  go_wp2_with fail
                  have Hn2l := Lib.hid hS2.len
                  go_loop [9, 11] (fun v i => ∃ (k : Nat) (x : Int), k ≤ n2 ∧ i = .int .i64 (k : Int) ∧ v = .int .i64 x ∧ rightB x 32 = true ∧ addB ss ts 0 = addB ss (ts.drop k) x) (fun _ i => n2 - (RowKit.intOf i).toNat)
                  case atStart => exact ⟨0, 0, Nat.zero_le _, rfl, rfl, by decide, rfl⟩
                  case round =>
                    obtain ⟨k, x, hk, rfl, rfl, hx, hadd⟩ := hrel
                    have Hadd := Lib.hid hadd
                    have Hx := Lib.hid hx
                    have hx2 : 0 ≤ x ∧ x < 4294967296 := by simp only [rightB, Bool.and_eq_true, decide_eq_true_eq, Int.reduceToNat] at hx; omega
                    clear hadd hx
                    rcases Nat.lt_or_ge k n2 with hlt | hge
                    · obtain ⟨zb, zo, rfl, hzb, hzc⟩ := hS2.at_ (by omega)
                      have hkl : k < ts.length := by rw [Hn2l.out]; exact hlt
                      have z1 := hzc k hkl
                      clear hzc
                      have Hdrop := Lib.hid (List.drop_eq_getElem_cons hkl)
                      generalize ts[k] = t at z1 Hdrop
                      have hvc := Hval.out t wl hbl
                      rcases hvt : valB t ss 0 with _ | j
                      · rw [hvt] at hvc
                        have hR : R = (0, 70) := by rw [HR.out, Hadd.out, Hdrop.out, addB, hvt]; rfl
                        have HR2 := Lib.hid hR
                        have Hvc := Lib.hid hvc
                        clear hR hvc hvt
                        go_wp2_with fail
                        refine Hvc.out.mono ?_
                        rintro e w9 ⟨rfl, rfl⟩
                        go_wp2_with fail
                        go_ret2
                        exact ⟨by rw [HR2.out]; rfl, hbl⟩
                      · obtain ⟨j, hj, hjl⟩ := valB_range t ss 0 j hvt
                        rw [Nat.zero_add] at hj
                        subst hj
                        have hj32 : j < 32 := by have := Hzl.out; omega
                        rw [hvt] at hvc
                        have Hvc := Lib.hid hvc
                        have hha := fun W => ref_Has8 x (j : Int) W
                        rcases hbit : bitB x (j : Int) with _ | _
                        · have hadd2 : addB ss ts 0 = addB ss (ts.drop (k + 1)) (x + 2 ^ j) := by
                            rw [Hadd.out, Hdrop.out, addB, hvt]
                            simp [hbit]
                          have Hadd2 := Lib.hid hadd2
                          have hri := add_right hj32 hbit Hx.out
                          have hwo := fun W => ref_worth j W (by omega)
                          have hP : 1 ≤ (2 : Int) ^ j ∧ (2 : Int) ^ j ≤ 4294967296 := by
                            have h1 : 2 ^ j ≤ 2 ^ 32 := Nat.pow_le_pow_right (by decide) (show j ≤ 32 by omega)
                            have h2 : (2 : Int) ^ j = ((2 ^ j : Nat) : Int) := by simp
                            have h3 := @Nat.one_le_two_pow j
                            rw [h2]; omega
                          rw [hbit] at hha
                          have Hha := Lib.hid hha
                          generalize (2 : Int) ^ j = P at *
                          have Hri := Lib.hid hri
                          have Hwo := Lib.hid hwo
                          clear hadd2 hvc hvt hbit hha hri hwo
                          go_wp2_with fail
                          refine Hvc.out.mono ?_
                          rintro e w9 ⟨rfl, rfl⟩
                          go_wp2_with fail
                          refine (Hha.out _).mono ?_
                          rintro e w9 ⟨rfl, rfl⟩
                          go_wp2_with fail
                          refine (Hwo.out _).mono ?_
                          rintro e w9 ⟨rfl, rfl⟩
                          go_wp2_with fail
                          go_round
                          case rel => exact ⟨k + 1, x + P, by omega, by go_num, rfl, Hri.out, Hadd2.out⟩
                          case measure => simp [RowKit.intOf]; omega
                        · have hR : R = (0, 70) := by rw [HR.out, Hadd.out, Hdrop.out, addB, hvt]; simp [hbit]
                          have HR2 := Lib.hid hR
                          rw [hbit] at hha
                          have Hha := Lib.hid hha
                          clear hR hvc hvt hbit hha
                          go_wp2_with fail
                          refine Hvc.out.mono ?_
                          rintro e w9 ⟨rfl, rfl⟩
                          go_wp2_with fail
                          refine (Hha.out _).mono ?_
                          rintro e w9 ⟨rfl, rfl⟩
                          go_wp2_with fail
                          go_ret2
                          exact ⟨by rw [HR2.out]; rfl, hbl⟩
                    · have hR : R = (x, 0) := by rw [HR.out, Hadd.out, List.drop_eq_nil_of_le (by rw [Hn2l.out]; exact hge), addB]; rfl
                      have HR2 := Lib.hid hR
                      clear hR
                      go_wp2_with fail
                      go_ret2
                      exact ⟨by rw [HR2.out]; rfl, hbl⟩
              · have hth1 : t.head? = some 94 := of_decide_eq_true hth
                have HRu1 : Hid (R = (match (if t.drop 1 = [] then some 0 else addB ss (splitL 32 (t.drop 1)) 0).map (fun x => notB x n) with | some x => ((x, 0) : Int × Int) | none => ((0, 70) : Int × Int))) := Lib.hid (by rw [HRu0.out]; simp [hth1])
                clear HRu0 hth
                have htp : 0 < t.length := by
                  rcases t with _ | ⟨a, b⟩
                  · simp at hth1
                  · simp
                have hte : t.isEmpty = false := by
                  rcases t with _ | ⟨a, b⟩
                  · simp at htp
                  · rfl
                have htn : ¬ t = [] := by rintro rfl; simp at htp
                have h94 : (((⟨t.toArray⟩ : ByteArray)[0]'htp).toNat : Int) = 94 := by
                  have h0 : t[0] = 94 := by
                    rw [List.head?_eq_getElem?, List.getElem?_eq_getElem htp] at hth1
                    exact Option.some.inj hth1
                  show (t[0].toNat : Int) = 94
                  rw [h0]; rfl
                clear hth1 Htl hx0 hx1 hy0 hy1 hq1 hq2 hq3 hll h0l hl2 hl hs46b Hin1 Hin Hcp Hps
                go_upto_region 14 with fail
                simp only [text_drop4]
                have htl2 : (t.drop 1).length ≤ 1000000 := by simp; omega
                clear h94 htn hte htp htl
                generalize t.drop 1 = u at *
                have HRu := HRu1
                have htl := htl2
                clear HRu1 htl2
                by_cases hue : u = []
                · have hR : R = (notB 0 n, 0) := by rw [HRu.out, if_pos hue]; rfl
                  have HR2 := Lib.hid hR
                  subst hue
                  clear hR HRu
                  go_wp2_with fail
                  go_loop [9, 11] (fun v i => v = .int .i64 0 ∧ i = .int .i64 0) (fun _ _ => 0)
                  case atStart => exact ⟨rfl, rfl⟩
                  case round =>
                    obtain ⟨rfl, rfl⟩ := hrel
                    go_wp2_with fail
                    refine (Hnot.out 0 _).mono ?_
                    rintro e w9 ⟨rfl, rfl⟩
                    go_wp2_with fail
                    go_ret2
                    exact ⟨by rw [HR2.out]; rfl, hb1⟩
                · have hum : u.isEmpty = false := by cases hq : u with | nil => exact absurd hq hue | cons a b => rfl
                  have hsp := fun W => ref_Split u 32 W (by omega)
                  have Hsp := Lib.hid hsp
                  have hsl := splitL_length 32 u
                  have HR : Hid (R = (match (addB ss (splitL 32 u) 0).map (fun x => notB x n) with | some x => ((x, 0) : Int × Int) | none => ((0, 70) : Int × Int))) := Lib.hid (by rw [HRu.out, if_neg hue])
                  generalize splitL 32 u = ts at *
                  clear hsp HRu
                  go_wp2_with fail
                  refine (Hsp.out _).mono ?_
                  rintro e wl ⟨A2, n2, d2, rfl, hnd2, hS2, hb2⟩
                  have hbl : Below w.heap.size w wl := hb1.trans (hb2.mono hb1.size)
                  have hn2l := hS2.len
                  have hn2b : n2 ≤ 1000001 := by omega
                  clear hn2l hsl
                  go_wp2_with fail
                  have Hn2l := Lib.hid hS2.len
                  go_loop [9, 11] (fun v i => ∃ (k : Nat) (x : Int), k ≤ n2 ∧ i = .int .i64 (k : Int) ∧ v = .int .i64 x ∧ rightB x 32 = true ∧ addB ss ts 0 = addB ss (ts.drop k) x) (fun _ i => n2 - (RowKit.intOf i).toNat)
                  case atStart => exact ⟨0, 0, Nat.zero_le _, rfl, rfl, by decide, rfl⟩
                  case round =>
                    obtain ⟨k, x, hk, rfl, rfl, hx, hadd⟩ := hrel
                    have Hadd := Lib.hid hadd
                    have Hx := Lib.hid hx
                    have hx2 : 0 ≤ x ∧ x < 4294967296 := by simp only [rightB, Bool.and_eq_true, decide_eq_true_eq, Int.reduceToNat] at hx; omega
                    clear hadd hx
                    rcases Nat.lt_or_ge k n2 with hlt | hge
                    · obtain ⟨zb, zo, rfl, hzb, hzc⟩ := hS2.at_ (by omega)
                      have hkl : k < ts.length := by rw [Hn2l.out]; exact hlt
                      have z1 := hzc k hkl
                      clear hzc
                      have Hdrop := Lib.hid (List.drop_eq_getElem_cons hkl)
                      generalize ts[k] = t at z1 Hdrop
                      have hvc := Hval.out t wl hbl
                      rcases hvt : valB t ss 0 with _ | j
                      · rw [hvt] at hvc
                        have hR : R = (0, 70) := by rw [HR.out, Hadd.out, Hdrop.out, addB, hvt]; rfl
                        have HR2 := Lib.hid hR
                        have Hvc := Lib.hid hvc
                        clear hR hvc hvt
                        go_wp2_with fail
                        refine Hvc.out.mono ?_
                        rintro e w9 ⟨rfl, rfl⟩
                        go_wp2_with fail
                        go_ret2
                        exact ⟨by rw [HR2.out]; rfl, hbl⟩
                      · obtain ⟨j, hj, hjl⟩ := valB_range t ss 0 j hvt
                        rw [Nat.zero_add] at hj
                        subst hj
                        have hj32 : j < 32 := by have := Hzl.out; omega
                        rw [hvt] at hvc
                        have Hvc := Lib.hid hvc
                        have hha := fun W => ref_Has8 x (j : Int) W
                        rcases hbit : bitB x (j : Int) with _ | _
                        · have hadd2 : addB ss ts 0 = addB ss (ts.drop (k + 1)) (x + 2 ^ j) := by
                            rw [Hadd.out, Hdrop.out, addB, hvt]
                            simp [hbit]
                          have Hadd2 := Lib.hid hadd2
                          have hri := add_right hj32 hbit Hx.out
                          have hwo := fun W => ref_worth j W (by omega)
                          have hP : 1 ≤ (2 : Int) ^ j ∧ (2 : Int) ^ j ≤ 4294967296 := by
                            have h1 : 2 ^ j ≤ 2 ^ 32 := Nat.pow_le_pow_right (by decide) (show j ≤ 32 by omega)
                            have h2 : (2 : Int) ^ j = ((2 ^ j : Nat) : Int) := by simp
                            have h3 := @Nat.one_le_two_pow j
                            rw [h2]; omega
                          rw [hbit] at hha
                          have Hha := Lib.hid hha
                          generalize (2 : Int) ^ j = P at *
                          have Hri := Lib.hid hri
                          have Hwo := Lib.hid hwo
                          clear hadd2 hvc hvt hbit hha hri hwo
                          go_wp2_with fail
                          refine Hvc.out.mono ?_
                          rintro e w9 ⟨rfl, rfl⟩
                          go_wp2_with fail
                          refine (Hha.out _).mono ?_
                          rintro e w9 ⟨rfl, rfl⟩
                          go_wp2_with fail
                          refine (Hwo.out _).mono ?_
                          rintro e w9 ⟨rfl, rfl⟩
                          go_wp2_with fail
                          go_round
                          case rel => exact ⟨k + 1, x + P, by omega, by go_num, rfl, Hri.out, Hadd2.out⟩
                          case measure => simp [RowKit.intOf]; omega
                        · have hR : R = (0, 70) := by rw [HR.out, Hadd.out, Hdrop.out, addB, hvt]; simp [hbit]
                          have HR2 := Lib.hid hR
                          rw [hbit] at hha
                          have Hha := Lib.hid hha
                          clear hR hvc hvt hbit hha
                          go_wp2_with fail
                          refine Hvc.out.mono ?_
                          rintro e w9 ⟨rfl, rfl⟩
                          go_wp2_with fail
                          refine (Hha.out _).mono ?_
                          rintro e w9 ⟨rfl, rfl⟩
                          go_wp2_with fail
                          go_ret2
                          exact ⟨by rw [HR2.out]; rfl, hbl⟩
                    · have hR : R = (notB x n, 0) := by rw [HR.out, Hadd.out, List.drop_eq_nil_of_le (by rw [Hn2l.out]; exact hge), addB]; rfl
                      have HR2 := Lib.hid hR
                      clear hR
                      go_wp2_with fail
                      refine (Hnot.out x _).mono ?_
                      rintro e w9 ⟨rfl, rfl⟩
                      go_wp2_with fail
                      go_ret2
                      exact ⟨by rw [HR2.out]; rfl, hbl⟩
            · have hy1 : ((s[s.length - 1].toNat : Int) != 93) = true := by
                rw [bne_iff_ne]; intro h; exact hb93 (UInt8.toNat.inj (by show _ = 93; omega))
              have hR : R = (0, 70) := by rw [Hcp.out, if_pos rfl, HPS.out, if_pos]; rw [Hin1.out]; simp [hb93]
              have HR := Lib.hid hR
              clear hR hb91 hb93
              go_enter Tryz.func209, Tryz.ntmps209
              go_wp2_with fail
              refine Hnm.out.mono ?_
              rintro e w1 ⟨rfl, hb1⟩
              go_wp2_with fail
              refine (Hv0.out _ hb1).mono ?_
              rintro e w2 ⟨rfl, rfl⟩
              go_wp2_with fail
              go_ret2
              exact ⟨by rw [HR.out]; rfl, hb1⟩
          · have hy0 : ((s[0].toNat : Int) != 91) = true := by
              rw [bne_iff_ne]; intro h; exact hb91 (UInt8.toNat.inj (by show _ = 91; omega))
            have hR : R = (0, 70) := by rw [Hcp.out, if_pos rfl, HPS.out, if_pos]; rw [Hin1.out]; simp [hb91]
            have HR := Lib.hid hR
            clear hR hb91
            go_enter Tryz.func209, Tryz.ntmps209
            go_wp2_with fail
            refine Hnm.out.mono ?_
            rintro e w1 ⟨rfl, hb1⟩
            go_wp2_with fail
            refine (Hv0.out _ hb1).mono ?_
            rintro e w2 ⟨rfl, rfl⟩
            go_wp2_with fail
            go_ret2
            exact ⟨by rw [HR.out]; rfl, hb1⟩
      · obtain ⟨q, hq, hql⟩ := valB_range s ss 0 j hv
        rw [Nat.zero_add] at hq
        subst hq
        rw [hv] at hv0
        have Hv0 := Lib.hid hv0
        have hR : R = (2 ^ q, 0) := by rw [Hcp.out, if_pos rfl, Hps.out, if_neg hs46, hv]; rfl
        have HR := Lib.hid hR
        have hwo := fun W => ref_worth q W (by have := Hzl.out; omega)
        have Hwo := Lib.hid hwo
        clear hR hv0 hv hs46 hwo
        go_enter Tryz.func209, Tryz.ntmps209
        go_wp2_with fail
        refine Hnm.out.mono ?_
        rintro e w1 ⟨rfl, hb1⟩
        go_wp2_with fail
        refine (Hv0.out _ hb1).mono ?_
        rintro e w2 ⟨rfl, rfl⟩
        go_wp2_with fail
        refine (Hwo.out _).mono ?_
        rintro e w2 ⟨rfl, rfl⟩
        go_wp2_with fail
        go_ret2
        exact ⟨by rw [HR.out]; rfl, hb1⟩
end Go.Vir

/- The reference's patterns: viramaref09.item. -/
namespace Go.Vir
open Go Go.RowKit Go.Proofs Go.Shelf
attribute [local go_sem] Oper.semAt_some

theorem text_last (s : List UInt8) : (⟨s.toArray⟩ : ByteArray).extract 0 (s.length - 1) = ⟨s.dropLast.toArray⟩ := by
  apply ByteArray.ext
  simp [ByteArray.data_extract, List.dropLast_eq_take]
theorem starR_end (t : List UInt8) (h : ¬ t.getLast? = some 42) : ∀ k, starR t k = (t, 0)
  | 0 => rfl
  | k + 1 => by rw [starR, if_neg h]
theorem starR_more (t : List UInt8) (h : t.getLast? = some 42) (k : Nat) : starR t (k + 1) = ((starR t.dropLast k).1, (starR t.dropLast k).2 + 1) := by rw [starR, if_pos h]

set_option maxRecDepth 100000 in
set_option maxHeartbeats 800000 in
theorem ref_item (s : List UInt8) (A : Option Addr) (n c : Nat) (ss : List (List UInt8)) (w : World) (hn : n ≤ 1000000) (hnc : n ≤ c) (hz : Strs w w.heap.size A n ss) (hs : ∀ x ∈ ss, x.length ≤ 1000) (hl : s.length ≤ 1000000) :
    Calls Tryz.prog 169 #[.string ⟨s.toArray⟩, .slice A n c] w fun e w' => e = .returned (.tuple #[.agg #[.int .i64 (cpB (starR s 2).1 ss).1, .int .i64 ((starR s 2).2 : Int)], .bool ((cpB (starR s 2).1 ss).2 == 0)]) ∧ Below w.heap.size w w' := by
  have hcp := fun (t : List UInt8) W (hW : Below w.heap.size w W) (ht : t.length ≤ 1000000) => ref_Parse8 t A n c ss W hn hnc ((hz.below hW).more hW.size) hs ht
  obtain ⟨u, m, hum⟩ : ∃ u m, starR s 2 = (u, m) := ⟨_, _, rfl⟩
  rw [hum]
  obtain ⟨x, y, hr⟩ : ∃ x y, cpB u ss = (x, y) := ⟨_, _, rfl⟩
  rw [hr]
  have Hr := Lib.hid hr
  clear hr
  have Hum := Lib.hid hum
  have Hcp := Lib.hid hcp
  clear hum hcp hz hs
  go_enter Tryz.func169, Tryz.ntmps169
  go_wp2_with fail
  go_loop [0, 6] (fun tv i => ∃ (t : List UInt8) (j : Nat), tv = .string ⟨t.toArray⟩ ∧ i = .int .i64 (j : Int) ∧ j ≤ 2 ∧ t.length ≤ s.length ∧ starR s 2 = ((starR t (2 - j)).1, (starR t (2 - j)).2 + j)) (fun _ i => 2 - (RowKit.intOf i).toNat)
  case atStart => exact ⟨s, 0, rfl, rfl, by omega, Nat.le_refl _, rfl⟩
  case round =>
    obtain ⟨t, j, rfl, rfl, hj, htl, hst⟩ := hrel
    have htl2 : t.length ≤ 1000000 := by omega
    have hb0 : Below w.heap.size w (w.alloc (.cells #[.int .i64 0, .int .i64 0] 167)) := by go_grown
    have hcp2 := Hcp.out t _ hb0 htl2
    have Hcp2 := Lib.hid hcp2
    have hfin : ∀ (k : Nat), starR s 2 = (t, k) → u = t ∧ m = k := fun k h => by rw [Hum.out] at h; exact ⟨congrArg Prod.fst h, congrArg Prod.snd h⟩
    have Hfin := Lib.hid hfin
    clear hcp2 hfin hl
    rcases Nat.lt_or_ge j 2 with hj2 | hj2
    · have hji : (j : Int) < 2 := by omega
      by_cases hte : t = []
      · have hk : starR s 2 = (t, j) := by rw [hst, starR_end t (by rw [hte]; simp)]; simp
        subst hte
        obtain ⟨e1, e2⟩ := Hfin.out j hk
        subst e1 e2
        rw [Hr.out] at Hcp2
        clear hst hk
        go_wp2_with fail
        refine Hcp2.out.mono ?_
        rintro e w2 ⟨rfl, hb2⟩
        obtain ⟨k0, k1, f0, f1, k2, hb3⟩ := kept2 hb2
        go_wp2_with fail
        obtain ⟨r0, r1⟩ := set2_cells k2 (.int .i64 x) (.int .i64 m)
        refine bodyPost_ret (v := .tuple #[.agg #[.int .i64 x, .int .i64 m], .bool (y == 0)]) (by simp [results, Tryz.results169, go_sem, r0, r1]) rfl ⟨rfl, (hb3.setCell (p := ⟨w.heap.size, 0, none⟩) (Nat.le_refl _) _).setCell (p := ⟨w.heap.size, 1, none⟩) (Nat.le_refl _) _⟩

      · have hie : t.isEmpty = false := by cases t with | nil => exact absurd rfl hte | cons a b => rfl
        have htp : 0 < t.length := by cases t with | nil => exact absurd rfl hte | cons a b => simp
        have hll : t.length - 1 < t.length := by omega
        have hx1 : (((⟨t.toArray⟩ : ByteArray)[t.length - 1]'hll).toNat : Int) = (t[t.length - 1].toNat : Int) := rfl
        have hq1 : 1 ≤ (t.length : Int) := by omega
        have hq2 : (t.length : Int) - 1 < (t.length : Int) := by omega
        have hq3 : ((t.length : Int) - 1).toNat = t.length - 1 := by omega
        have hls : t.getLast? = some (t[t.length - 1]) := by rw [List.getLast?_eq_getElem?, List.getElem?_eq_getElem hll]
        by_cases h42 : t[t.length - 1] = 42
        · have hy1 : ((t[t.length - 1].toNat : Int) == 42) = true := by rw [h42]; rfl
          obtain ⟨q, hq⟩ : ∃ q, 2 - j = q + 1 := ⟨1 - j, by omega⟩
          have hst2 : starR s 2 = ((starR t.dropLast (2 - (j + 1))).1, (starR t.dropLast (2 - (j + 1))).2 + (j + 1)) := by
            rw [hst, hq, starR_more t (by rw [hls, h42]), show 2 - (j + 1) = q by omega]
            simp only [Prod.mk.injEq, true_and]; omega
          have Hst2 := Lib.hid hst2
          have hdl : t.dropLast.length ≤ s.length := by rw [List.length_dropLast]; omega
          clear hst hst2 hls h42 hte Hfin Hcp2
          go_wp2_with fail
          simp only [text_last]
          go_round
          case rel => exact ⟨t.dropLast, j + 1, rfl, by go_num, by omega, hdl, Hst2.out⟩
          case measure => simp [RowKit.intOf]; omega
        · have hy1 : ((t[t.length - 1].toNat : Int) == 42) = false := by
            rw [beq_eq_false_iff_ne]; intro h; exact h42 (UInt8.toNat.inj (by show _ = 42; omega))
          have hk : starR s 2 = (t, j) := by rw [hst, starR_end t (by rw [hls]; simpa using h42)]; simp
          clear hls h42 hte
          obtain ⟨e1, e2⟩ := Hfin.out j hk
          subst e1 e2
          rw [Hr.out] at Hcp2
          clear hst hk
          go_wp2_with fail
          refine Hcp2.out.mono ?_
          rintro e w2 ⟨rfl, hb2⟩
          obtain ⟨k0, k1, f0, f1, k2, hb3⟩ := kept2 hb2
          go_wp2_with fail
          obtain ⟨r0, r1⟩ := set2_cells k2 (.int .i64 x) (.int .i64 m)
          refine bodyPost_ret (v := .tuple #[.agg #[.int .i64 x, .int .i64 m], .bool (y == 0)]) (by simp [results, Tryz.results169, go_sem, r0, r1]) rfl ⟨rfl, (hb3.setCell (p := ⟨w.heap.size, 0, none⟩) (Nat.le_refl _) _).setCell (p := ⟨w.heap.size, 1, none⟩) (Nat.le_refl _) _⟩

    · have hj3 : j = 2 := by omega
      have hk : starR s 2 = (t, j) := by rw [hst, hj3]; simp [starR]
      have hji : ¬ (j : Int) < 2 := by omega
      clear hj3
      obtain ⟨e1, e2⟩ := Hfin.out j hk
      subst e1 e2
      rw [Hr.out] at Hcp2
      clear hst hk
      go_wp2_with fail
      refine Hcp2.out.mono ?_
      rintro e w2 ⟨rfl, hb2⟩
      obtain ⟨k0, k1, f0, f1, k2, hb3⟩ := kept2 hb2
      go_wp2_with fail
      obtain ⟨r0, r1⟩ := set2_cells k2 (.int .i64 x) (.int .i64 m)
      refine bodyPost_ret (v := .tuple #[.agg #[.int .i64 x, .int .i64 m], .bool (y == 0)]) (by simp [results, Tryz.results169, go_sem, r0, r1]) rfl ⟨rfl, (hb3.setCell (p := ⟨w.heap.size, 0, none⟩) (Nat.le_refl _) _).setCell (p := ⟨w.heap.size, 1, none⟩) (Nat.le_refl _) _⟩
end Go.Vir

/- The reference's patterns: viramaref09.Print. -/
namespace Go.Vir
open Go Go.RowKit Go.Proofs Go.Shelf
attribute [local go_sem] Oper.semAt_some

theorem join_full {l : List (List UInt8)} {sep : List UInt8} (h : l ≠ []) (hn : ∀ t ∈ l, t ≠ []) : Lib.join l sep ≠ [] := by
  cases l with
  | nil => exact absurd rfl h
  | cons a r =>
    rw [Lib.join_cons]
    intro hh
    exact hn a (by simp) (List.append_eq_nil_iff.1 hh).1
theorem text_next {st : Bool} {xs : List (Int × Int)} {ss : List (List UInt8)} {k : Nat} (hk : k < xs.length) (hne : ∀ t ∈ outK st xs ss k, t ≠ []) :
    (Lib.join (outK st xs ss k) [32] = [] → Lib.join (outK st xs ss (k + 1)) [32] = itemT ss xs[k]) ∧
    (Lib.join (outK st xs ss k) [32] ≠ [] → Lib.join (outK st xs ss (k + 1)) [32] = Lib.join (outK st xs ss k) [32] ++ [32] ++ itemT ss xs[k]) := by
  rw [outK_succ st xs ss k hk, join_snoc]
  generalize outK st xs ss k = l at *
  constructor
  · intro h
    by_cases hl : l = []
    · rw [if_pos hl]
    · exact absurd h (join_full hl hne)
  · intro h
    by_cases hl : l = []
    · rw [hl, Lib.join_nil] at h; exact absurd rfl h
    · rw [if_neg hl]; simp
theorem stars_cut {q : Nat} (h : q ≤ 2) : (⟨#[42, 42]⟩ : ByteArray).extract 0 q = ⟨(Lib.repeatL [42] q).toArray⟩ := by
  rcases (show q = 0 ∨ q = 1 ∨ q = 2 by omega) with rfl | rfl | rfl <;> rfl

set_option maxRecDepth 100000 in
set_option maxHeartbeats 3200000 in
theorem ref_Print9 (st : Bool) (Ai : Option Addr) (m ci : Nat) (xs : List (Int × Int)) (A : Option Addr) (n c : Nat) (ss : List (List UInt8)) (w : World) (hx : Prs w w.heap.size Ai m xs) (hm : m ≤ 1000000) (hn : n ≤ 1000000) (hnc : n ≤ c) (hz : Strs w w.heap.size A n ss) (hs : ∀ x ∈ ss, x.length ≤ 1000) :
    Calls Tryz.prog 69 #[.agg #[.bool st, .slice Ai m ci], .slice A n c] w fun e w' => e = .returned (.tuple #[.string ⟨(ppB st xs ss).1.toArray⟩, .int .i64 (ppB st xs ss).2]) ∧ Below w.heap.size w w' := by
  have hzl := hz.len
  have hpp : ppB st xs ss = (if namesB ss then (if patB n xs then ((Lib.join (outT st xs ss) [32], 0) : List UInt8 × Int) else (([], 80) : List UInt8 × Int)) else (([], 2) : List UInt8 × Int)) := by unfold ppB; rw [hzl]
  have hnm := fun W (hW : Below w.heap.size w W) => ref_Names A n c ss W hn hnc ((hz.below hW).more hW.size) (fun x hx => by have := hs x hx; omega)
  have hri := fun W (hW : Below w.heap.size w W) => ref_Right9 st Ai m ci xs n W ((hx.below hW).more hW.size) hm
  have hpr := fun s W (hW : Below w.heap.size w W) => ref_Print8 s A n c ss W hn hnc ((hz.below hW).more hW.size) hs
  generalize ppB st xs ss = R at *
  have Hpp := Lib.hid hpp
  have Hnm := Lib.hid hnm
  have Hri := Lib.hid hri
  have Hpr := Lib.hid hpr
  have Hzl := Lib.hid hzl
  clear hpp hnm hri hpr hzl
  rcases h1 : namesB ss with _ | _
  · have hR : R = ([], 2) := by rw [Hpp.out, h1]; rfl
    have HR := Lib.hid hR
    rw [h1] at Hnm
    clear hR h1
    go_enter Tryz.func69, Tryz.ntmps69
    go_wp2_with fail
    refine (Hnm.out _ (by go_grown)).mono ?_
    rintro e w1 ⟨rfl, hb1⟩
    have hb2 : Below w.heap.size w w1 := Below.trans (by go_grown) (hb1.mono (by simp))
    clear hb1
    go_wp2_with fail
    go_ret2
    exact ⟨by rw [HR.out]; rfl, hb2⟩
  · rcases h2 : patB n xs with _ | _
    · have hR : R = ([], 80) := by rw [Hpp.out, h1, h2]; rfl
      have HR := Lib.hid hR
      rw [h1] at Hnm
      rw [h2] at Hri
      clear hR h1 h2
      go_enter Tryz.func69, Tryz.ntmps69
      go_wp2_with fail
      refine (Hnm.out _ (by go_grown)).mono ?_
      rintro e w1 ⟨rfl, hb1⟩
      have hb2 : Below w.heap.size w w1 := Below.trans (by go_grown) (hb1.mono (by simp))
      have k0 : w1.cell? ⟨w.heap.size, 0, none⟩ = some (.bool st) := by rw [cellOf hb1 (by simp)]; simp
      have k1 : w1.cell? ⟨w.heap.size, 1, none⟩ = some (.slice Ai m ci) := by rw [cellOf hb1 (by simp)]; simp
      clear hb1
      go_wp2_with fail
      refine (Hri.out _ hb2).mono ?_
      rintro e w3 ⟨rfl, hb3⟩
      go_wp2_with fail
      go_ret2
      exact ⟨by rw [HR.out]; rfl, hb2.trans (hb3.mono hb2.size)⟩
    · have hR : R = (Lib.join (outT st xs ss) [32], 0) := by rw [Hpp.out, h1, h2]; rfl
      have HR := Lib.hid hR
      obtain ⟨hx10, hxr⟩ := patB_items h2
      have Hxr := Lib.hid hxr
      have Hxl := Lib.hid hx.len
      have hm10 : m ≤ 10 := by have := hx.len; omega
      have hib : ∀ x ∈ xs, itemB n x = true := by
        have h3 := h2
        simp only [patB, Bool.and_eq_true, List.all_eq_true] at h3
        exact h3.2.2.2
      have hne : ∀ k, ∀ t ∈ outK st xs ss k, t ≠ [] := fun k t ht => by
        unfold outK at ht
        rcases List.mem_append.1 ht with h | h
        · split at h
          · simp at h; subst h; simp
          · cases h
        · obtain ⟨x, hx', rfl⟩ := List.mem_map.1 h
          exact (item_text h1 (by rw [Hzl.out]; exact hib x (List.mem_of_mem_take hx'))).2.1
      have hln : ∀ k, k ≤ 10 → (Lib.join (outK st xs ss k) [32]).length ≤ 1100011 := fun k hk => by
        have h3 := join_length [32] 100000 (outK st xs ss k) (fun t ht => by
          unfold outK at ht
          rcases List.mem_append.1 ht with h | h
          · split at h
            · simp at h; subst h; simp
            · cases h
          · obtain ⟨x, hx', rfl⟩ := List.mem_map.1 h
            have h1 := pcB_len (s := x.1) hs
            have h2 := hxr x (List.mem_of_mem_take hx')
            simp only [itemT, List.length_append, rep_len]
            omega)
        have h4 : (outK st xs ss k).length ≤ 11 := by have := outK_len st xs ss k; omega
        have h5 := Nat.mul_le_mul h4 (Nat.le_refl (100000 + [(32 : UInt8)].length))
        simp only [List.length_cons, List.length_nil] at h3 h5
        omega
      have hnext := fun k hk => text_next (k := k) hk (hne k)
      have Hnext := Lib.hid hnext
      have Hln := Lib.hid hln
      have hpl := fun s => pcB_len (s := s) hs
      have Hpl := Lib.hid hpl
      have h0 : Lib.join (outK st xs ss 0) [32] = if st then [94] else [] := by cases st <;> simp [outK, Lib.join_one, Lib.join_nil]
      have H0 := Lib.hid h0
      have hall := fun k h => outK_all st xs ss k h
      have Hall := Lib.hid hall
      rw [h1] at Hnm
      rw [h2] at Hri
      clear hR h1 h2 hxr hib hne hln hnext hpl h0 hall hs
      go_enter Tryz.func69, Tryz.ntmps69
      go_wp2_with fail
      refine (Hnm.out _ (by go_grown)).mono ?_
      rintro e w1 ⟨rfl, hb1⟩
      have hb2 : Below w.heap.size w w1 := Below.trans (by go_grown) (hb1.mono (by simp))
      have hbx : w1.heap[w.heap.size]? = some (.cells #[.bool st, .slice Ai m ci] 96 (0, 0)) := (hb1.block w.heap.size (by simp)).trans (heap_new rfl)
      have k0 := cell_blk hbx 0
      have k1 := cell_blk hbx 1
      simp only [List.getElem?_toArray, List.getElem?_cons_zero, List.getElem?_cons_succ] at k0 k1
      clear hb1
      go_wp2_with fail
      refine (Hri.out _ hb2).mono ?_
      rintro e w3 ⟨rfl, hb3⟩
      have hb4 := hb2.trans (hb3.mono hb2.size)
      have hs1 : w.heap.size < w1.heap.size := (Array.getElem?_eq_some_iff.1 hbx).1
      have hbx3 : w3.heap[w.heap.size]? = some (.cells #[.bool st, .slice Ai m ci] 96 (0, 0)) := (hb3.block w.heap.size hs1).trans hbx
      have k2 := cell_blk hbx3 0
      simp only [List.getElem?_toArray, List.getElem?_cons_zero] at k2
      clear hb2 hb3 hbx k0 k1 hs1
      rcases st with _ | _
      · go_wp2_with fail
        go_loopw [6, 7] (fun tv i wr => ∃ (k : Nat), k ≤ m ∧ i = .int .i64 (k : Int) ∧ tv = .string ⟨(Lib.join (outK false xs ss k) [32]).toArray⟩ ∧ Below w.heap.size w wr ∧ wr.heap[w.heap.size]? = some (.cells #[.bool false, .slice Ai m ci] 96 (0, 0))) (fun _ i _ => m - (RowKit.intOf i).toNat)
        case atStart => exact ⟨0, Nat.zero_le _, rfl, by rw [H0.out]; rfl, hb4, hbx3⟩
        case round =>
          clear hb4 hbx3 k2
          obtain ⟨k, hk, rfl, rfl, hb, hbx⟩ := hrel
          have e1 := cell_blk hbx 1
          have hsw := (Array.getElem?_eq_some_iff.1 hbx).1
          simp only [List.getElem?_toArray, List.getElem?_cons_zero, List.getElem?_cons_succ] at e1
          rcases Nat.lt_or_ge k m with hlt | hge
          · obtain ⟨xb, xo, rfl, hxb, hxc⟩ := hx.at_ (by omega)
            have hkx : k < xs.length := by rw [Hxl.out]; exact hlt
            have hz' := hxc k hkx
            have z1 := (cellOf hb hxb).trans hz'.1
            have z2 := (cellOf hb hxb).trans hz'.2
            obtain ⟨hr0, hr2⟩ := Hxr.out xs[k] (List.getElem_mem _)
            have hnx := Hnext.out k hkx
            have hjl := Hln.out k (by omega)
            have hxw : xb < wr.heap.size := by have := hb.size; omega
            clear hz' hxc
            generalize xs[k] = x at *
            obtain ⟨s, h⟩ := x
            obtain ⟨q, rfl⟩ := Int.eq_ofNat_of_zero_le hr0
            simp only at z1 z2 hr0 hr2
            have hq2 : q ≤ 2 := by omega
            have hil := Hpl.out s
            have hit : itemT ss (s, (q : Int)) = (pcB s ss).1 ++ Lib.repeatL [42] q := rfl
            rw [hit] at hnx
            have Hprs := Lib.hid (Hpr.out s)
            have Hsc := Lib.hid (stars_cut hq2)
            have hrl : (Lib.repeatL [42] q).length = q := by rw [rep_len]
            generalize pcB s ss = pr at *
            obtain ⟨P, y⟩ := pr
            simp only at hil hnx
            generalize Lib.repeatL [42] q = Q at *
            have hnx1 := hnx.1
            have hnx2 := hnx.2
            have Hn1 := Lib.hid hnx1
            have Hn2 := Lib.hid hnx2
            clear hit hnx hnx1 hnx2
            generalize Lib.join (outK false xs ss k) [32] = J at *
            have g0 : ¬ 9223372036854775807 < J.length + 1 := by omega
            have g1 : ¬ 9223372036854775807 < J.length + P.length := by omega
            have g2 : ¬ 9223372036854775807 < J.length + 1 + P.length := by omega
            have g3 : ¬ 9223372036854775807 < J.length + P.length + q := by omega
            have g4 : ¬ 9223372036854775807 < J.length + 1 + P.length + q := by omega
            by_cases hJ : J = []
            · have hn1 := Hn1.out hJ
              have HN1 := Lib.hid hn1
              subst hJ
              clear hn1 Hn1 Hn2
              go_wp2_with fail
              refine (Hprs.out _ hb).mono ?_
              rintro e w5 ⟨rfl, hb5⟩
              have z3 := (cellOf hb5 hxw).trans z2
              have e3 := (cellOf hb5 hsw).trans e1
              have hbx5 : w5.heap[w.heap.size]? = some (.cells #[.bool false, .slice (some ⟨xb, xo, none⟩) m ci] 96 (0, 0)) := (hb5.block w.heap.size hsw).trans hbx
              have hb6 := hb.trans (hb5.mono hb.size)
              clear z1 z2 e1 hbx hb hb5
              go_wp2_with fail
              go_roundw
              case rel => exact ⟨k + 1, by omega, by go_num, by rw [HN1.out]; simp [Hsc.out, bytes_app], hb6, hbx5⟩
              case measure => simp [RowKit.intOf]; omega

            · have hJe : J.isEmpty = false := by cases J with | nil => exact absurd rfl hJ | cons a b => rfl
              have hn2 := Hn2.out hJ
              have HN2 := Lib.hid hn2
              clear hn2 Hn1 Hn2
              go_wp2_with fail
              refine (Hprs.out _ hb).mono ?_
              rintro e w5 ⟨rfl, hb5⟩
              have z3 := (cellOf hb5 hxw).trans z2
              have e3 := (cellOf hb5 hsw).trans e1
              have hbx5 : w5.heap[w.heap.size]? = some (.cells #[.bool false, .slice (some ⟨xb, xo, none⟩) m ci] 96 (0, 0)) := (hb5.block w.heap.size hsw).trans hbx
              have hb6 := hb.trans (hb5.mono hb.size)
              clear z1 z2 e1 hbx hb hb5
              go_wp2_with fail
              go_roundw
              case rel => exact ⟨k + 1, by omega, by go_num, by rw [HN2.out]; simp [Hsc.out, bytes_app], hb6, hbx5⟩
              case measure => simp [RowKit.intOf]; omega

          · have hV := Hall.out k (by rw [Hxl.out]; exact hge)
            rw [hV]
            clear hV
            go_wp2_with fail
            go_ret2
            exact ⟨by rw [HR.out]; rfl, hb⟩
      · go_wp2_with fail
        go_loopw [6, 7] (fun tv i wr => ∃ (k : Nat), k ≤ m ∧ i = .int .i64 (k : Int) ∧ tv = .string ⟨(Lib.join (outK true xs ss k) [32]).toArray⟩ ∧ Below w.heap.size w wr ∧ wr.heap[w.heap.size]? = some (.cells #[.bool true, .slice Ai m ci] 96 (0, 0))) (fun _ i _ => m - (RowKit.intOf i).toNat)
        case atStart => exact ⟨0, Nat.zero_le _, rfl, by rw [H0.out]; rfl, hb4, hbx3⟩
        case round =>
          clear hb4 hbx3 k2
          obtain ⟨k, hk, rfl, rfl, hb, hbx⟩ := hrel
          have e1 := cell_blk hbx 1
          have hsw := (Array.getElem?_eq_some_iff.1 hbx).1
          simp only [List.getElem?_toArray, List.getElem?_cons_zero, List.getElem?_cons_succ] at e1
          rcases Nat.lt_or_ge k m with hlt | hge
          · obtain ⟨xb, xo, rfl, hxb, hxc⟩ := hx.at_ (by omega)
            have hkx : k < xs.length := by rw [Hxl.out]; exact hlt
            have hz' := hxc k hkx
            have z1 := (cellOf hb hxb).trans hz'.1
            have z2 := (cellOf hb hxb).trans hz'.2
            obtain ⟨hr0, hr2⟩ := Hxr.out xs[k] (List.getElem_mem _)
            have hnx := Hnext.out k hkx
            have hjl := Hln.out k (by omega)
            have hxw : xb < wr.heap.size := by have := hb.size; omega
            clear hz' hxc
            generalize xs[k] = x at *
            obtain ⟨s, h⟩ := x
            obtain ⟨q, rfl⟩ := Int.eq_ofNat_of_zero_le hr0
            simp only at z1 z2 hr0 hr2
            have hq2 : q ≤ 2 := by omega
            have hil := Hpl.out s
            have hit : itemT ss (s, (q : Int)) = (pcB s ss).1 ++ Lib.repeatL [42] q := rfl
            rw [hit] at hnx
            have Hprs := Lib.hid (Hpr.out s)
            have Hsc := Lib.hid (stars_cut hq2)
            have hrl : (Lib.repeatL [42] q).length = q := by rw [rep_len]
            generalize pcB s ss = pr at *
            obtain ⟨P, y⟩ := pr
            simp only at hil hnx
            generalize Lib.repeatL [42] q = Q at *
            have hnx1 := hnx.1
            have hnx2 := hnx.2
            have Hn1 := Lib.hid hnx1
            have Hn2 := Lib.hid hnx2
            clear hit hnx hnx1 hnx2
            generalize Lib.join (outK true xs ss k) [32] = J at *
            have g0 : ¬ 9223372036854775807 < J.length + 1 := by omega
            have g1 : ¬ 9223372036854775807 < J.length + P.length := by omega
            have g2 : ¬ 9223372036854775807 < J.length + 1 + P.length := by omega
            have g3 : ¬ 9223372036854775807 < J.length + P.length + q := by omega
            have g4 : ¬ 9223372036854775807 < J.length + 1 + P.length + q := by omega
            by_cases hJ : J = []
            · have hn1 := Hn1.out hJ
              have HN1 := Lib.hid hn1
              subst hJ
              clear hn1 Hn1 Hn2
              go_wp2_with fail
              refine (Hprs.out _ hb).mono ?_
              rintro e w5 ⟨rfl, hb5⟩
              have z3 := (cellOf hb5 hxw).trans z2
              have e3 := (cellOf hb5 hsw).trans e1
              have hbx5 : w5.heap[w.heap.size]? = some (.cells #[.bool true, .slice (some ⟨xb, xo, none⟩) m ci] 96 (0, 0)) := (hb5.block w.heap.size hsw).trans hbx
              have hb6 := hb.trans (hb5.mono hb.size)
              clear z1 z2 e1 hbx hb hb5
              go_wp2_with fail
              go_roundw
              case rel => exact ⟨k + 1, by omega, by go_num, by rw [HN1.out]; simp [Hsc.out, bytes_app], hb6, hbx5⟩
              case measure => simp [RowKit.intOf]; omega

            · have hJe : J.isEmpty = false := by cases J with | nil => exact absurd rfl hJ | cons a b => rfl
              have hn2 := Hn2.out hJ
              have HN2 := Lib.hid hn2
              clear hn2 Hn1 Hn2
              go_wp2_with fail
              refine (Hprs.out _ hb).mono ?_
              rintro e w5 ⟨rfl, hb5⟩
              have z3 := (cellOf hb5 hxw).trans z2
              have e3 := (cellOf hb5 hsw).trans e1
              have hbx5 : w5.heap[w.heap.size]? = some (.cells #[.bool true, .slice (some ⟨xb, xo, none⟩) m ci] 96 (0, 0)) := (hb5.block w.heap.size hsw).trans hbx
              have hb6 := hb.trans (hb5.mono hb.size)
              clear z1 z2 e1 hbx hb hb5
              go_wp2_with fail
              go_roundw
              case rel => exact ⟨k + 1, by omega, by go_num, by rw [HN2.out]; simp [Hsc.out, bytes_app], hb6, hbx5⟩
              case measure => simp [RowKit.intOf]; omega

          · have hV := Hall.out k (by rw [Hxl.out]; exact hge)
            rw [hV]
            clear hV
            go_wp2_with fail
            go_ret2
            exact ⟨by rw [HR.out]; rfl, hb⟩
end Go.Vir

/- viramaref11: Right. -/
namespace Go.Vir
open Go Go.RowKit Go.Proofs Go.Shelf
attribute [local go_sem] Oper.semAt_some

theorem rulesB_bad {n : Int} {rs : List RuleV} {k : Nat} (h : k < rs.length) (hb : ruleOk n rs[k] = false) : rulesB n rs = false := by
  have : rs.all (ruleOk n) = false := by
    rw [List.all_eq_false]
    exact ⟨rs[k], List.getElem_mem h, by rw [hb]; simp⟩
  unfold rulesB
  rw [this]; simp

set_option maxRecDepth 100000 in
set_option maxHeartbeats 1600000 in
theorem ref_Right11 (A : Option Addr) (m c : Nat) (rs : List RuleV) (n : Int) (w : World) (hx : Rls w w.heap.size A m rs) (hm : m ≤ 1000000) :
    Calls Tryz.prog 68 #[.slice A m c, .int .i64 n] w fun e w' => e = .returned (.bool (rulesB n rs)) ∧ Below w.heap.size w w' := by
  have hl := hx.len
  have hfin : rs.all (ruleOk n) = true → rulesB n rs = (decide (1 ≤ n) && (decide (n ≤ 32) && decide (m ≤ 40))) := fun h => by
    unfold rulesB; rw [h, hl]; simp
  have hbad := fun (k : Nat) (h : k < rs.length) (hb : ruleOk n rs[k] = false) => rulesB_bad h hb
  have Hfin := Lib.hid hfin
  have Hbad := Lib.hid hbad
  have Hl := Lib.hid hl
  clear hfin hbad hl
  generalize rulesB n rs = V at *
  go_enter Tryz.func68, Tryz.ntmps68
  go_wp2
  go_loopw [5] (fun i wr => ∃ k : Nat, k ≤ m ∧ i = .int .i64 (k : Int) ∧ (rs.take k).all (ruleOk n) = true ∧ Below w.heap.size w wr) (fun i _ => m - (RowKit.intOf i).toNat)
  case atStart => exact ⟨0, Nat.zero_le _, rfl, rfl, Below.refl _ _⟩
  case round =>
    obtain ⟨k, hk, rfl, hall, hbr⟩ := hrel
    rcases Nat.lt_or_ge k m with hlt | hge
    · obtain ⟨rb, ro, rfl, hrb, hrc⟩ := hx.at_ (by omega)
      have hkr : k < rs.length := by rw [Hl.out]; exact hlt
      obtain ⟨Al, ml, cl, Ar, mr, cr, y0, y1, y2, y3, y4, hM⟩ := hrc k hkr
      have hb := Hbad.out k hkr
      have hnx : ruleOk n rs[k] = true → (rs.take (k + 1)).all (ruleOk n) = true := fun h => by
        rw [List.take_succ_eq_append_getElem hkr, List.all_append, hall]; simp [h]
      have Hb := Lib.hid hb
      have Hnx := Lib.hid hnx
      clear hrc hb hnx hall
      generalize rs[k] = x at *
      obtain ⟨sl, xl, sr, xr, br⟩ := x
      simp only at y0 y1 y2 y3 y4
      have hp1 := fun W (hW : Below w.heap.size w W) => ref_Right9 sl Al ml cl xl n W ((hM.left.below hW).more hW.size) (by have := hM.lb; omega)
      have hp2 := fun W (hW : Below w.heap.size w W) => ref_Right9 sr Ar mr cr xr n W ((hM.right.below hW).more hW.size) (by have := hM.rb; omega)
      have Hp1 := Lib.hid hp1
      have Hp2 := Lib.hid hp2
      have u0 := (cellOf hbr hrb).trans y0
      have u1 := (cellOf hbr hrb).trans y1
      clear hp1 hp2 hM
      go_wp2_with fail
      refine (Hp1.out _ hbr).mono ?_
      rintro e w1 ⟨rfl, hb1⟩
      have hb2 := hbr.trans (hb1.mono hbr.size)
      have v2 := (cellOf hb2 hrb).trans y2
      have v3 := (cellOf hb2 hrb).trans y3
      clear u0 u1 hb1
      rcases h1 : patB n xl with _ | _
      · have hv := Hb.out (by simp [ruleOk, h1])
        have Hv := Lib.hid hv
        clear hv h1
        go_wp2_with fail
        go_ret
        exact ⟨ret_bool Hv.out.symm, hb2⟩
      · go_wp2_with fail
        refine (Hp2.out _ hb2).mono ?_
        rintro e w2 ⟨rfl, hb3⟩
        have hb4 := hb2.trans (hb3.mono hb2.size)
        have t2 := (cellOf hb4 hrb).trans y2
        clear v2 v3 hb3
        rcases h2 : patB n xr with _ | _
        · have hv := Hb.out (by simp [ruleOk, h1, h2])
          have Hv := Lib.hid hv
          clear hv h1 h2
          go_wp2_with fail
          go_ret
          exact ⟨ret_bool Hv.out.symm, hb4⟩
        · rcases sr with _ | _
          · have ha := Hnx.out (by simp [ruleOk, h1, h2])
            have Ha := Lib.hid ha
            clear ha h1 h2
            go_wp2_with fail
            go_roundw
            case rel => exact ⟨k + 1, by omega, by go_num, Ha.out, hb4⟩
            case measure => simp [RowKit.intOf]; omega
          · have hv := Hb.out (by simp [ruleOk])
            have Hv := Lib.hid hv
            clear hv h1 h2
            go_wp2_with fail
            go_ret
            exact ⟨ret_bool Hv.out.symm, hb4⟩
    · have hv := Hfin.out (by rw [List.take_of_length_le (by rw [Hl.out]; exact hge)] at hall; exact hall)
      have Hv := Lib.hid hv
      have hkm : k = m := by omega
      subst hkm
      clear hall hv
      rcases (show n < 1 ∨ (1 ≤ n ∧ 32 < n) ∨ (1 ≤ n ∧ n ≤ 32)by omega) with h1 | ⟨h1, h2⟩ | ⟨h1, h2⟩
      · go_wp2_with fail
        go_ret
        exact ⟨ret_bool (by rw [Hv.out, decide_eq_false (show ¬ 1 ≤ n by omega)]; rfl), hbr⟩
      · go_wp2_with fail
        go_ret
        exact ⟨ret_bool (by rw [Hv.out, decide_eq_false (show ¬ n ≤ 32 by omega)]; simp), hbr⟩
      · go_wp2_with fail
        go_ret
        refine ⟨ret_bool ?_, hbr⟩
        rw [Hv.out, decide_eq_true h1, decide_eq_true h2, Bool.true_and, Bool.true_and, decide_eq_decide]
        omega
end Go.Vir
