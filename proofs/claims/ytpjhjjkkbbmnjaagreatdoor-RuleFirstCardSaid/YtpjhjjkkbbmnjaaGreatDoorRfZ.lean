/- The row of RuleFirst and its tied card: for every input (under the row's conditions on the listed variables) the law returns true and its arguments read as before. -/
import Derived.Test.YtpjhjjkkbbmnjaaGreatDoorBi
import Derived.Test.YtpjhjjkkbbmnjaaGreatDoorBj
import Derived.Test.YtpjhjjkkbbmnjaaGreatDoorTie
import Derived.Test.YtpjhjjkkbbmnjaaGreatDoorCards
/- viramalaw11: RuleFirst. -/
namespace Go.Vir
open Go Go.RowKit Go.Proofs Go.Shelf
attribute [local go_sem] Oper.semAt_some

theorem cutsB_err (rs : List RuleV) (l : List Int) : (rulesB 32 rs = true ∧ (cutsB rs l).2 = 0) ∨ (rulesB 32 rs = false ∧ (cutsB rs l).2 = 90) := by
  unfold cutsB
  rcases h : rulesB 32 rs with _ | _
  · right; exact ⟨rfl, by simp⟩
  · left; exact ⟨rfl, by simp⟩
theorem cutsB_len (rs : List RuleV) (l : List Int) : (cutsB rs l).1.length ≤ l.length + 2 := by
  have := insB_len rs l l.length
  unfold cutsB
  split
  · split <;> simp <;> omega
  · simp
theorem contains_snoc (cs : List Int) (k : Nat) (h : k < cs.length) (x : Int) : (cs.take (k + 1)).contains x = ((cs.take k).contains x || (cs[k] == x)) := by
  rw [List.take_succ_eq_append_getElem h, Bool.eq_iff_iff]
  simp only [List.contains_iff_mem, List.mem_append, List.mem_singleton, Bool.or_eq_true, beq_iff_eq]
  constructor
  · rintro (h | h)
    · exact .inl h
    · exact .inr h.symm
  · rintro (h | h)
    · exact .inl h
    · exact .inr h.symm

set_option maxRecDepth 100000 in
set_option maxHeartbeats 8000000 in
theorem law_first (A B : Option Addr) (m0 c0 n0 c2 : Nat) (rs0 : List RuleV) (zs0 : List Int) (at_ : Int) (w : World) (hG : Globs w) (hx : RlsI w w.heap.size A m0 rs0) (hz : Ints w w.heap.size B n0 zs0) (hc2 : n0 ≤ c2) :
    Calls Tryz.prog 7 #[.slice A m0 c0, .slice B n0 c2, .int .i64 at_] w fun e w' => e = .returned (.bool true) ∧ Below w.heap.size w w' := by
  go_enter Tryz.func7, Tryz.ntmps7
  go_wp2_with fail
  refine (law11_shown _ hG).mono ?_
  rintro e w1 ⟨rfl, hb1⟩
  have hx1 := (hx.below hb1).more hb1.size
  go_wp2_with fail
  refine (law11_Few A m0 c0 rs0 w1 hx1).mono ?_
  rintro e w2 ⟨⟨A2, m, c, rfl, hm, hmc, hR, hm42⟩, hb2⟩
  have Hm := Lib.hid hm
  clear hm
  have hb3 := hb1.trans (hb2.mono hb1.size)
  have hzW := ((hz.below hb3).more hb3.size).take (min n0 30) (by omega)
  have hn30 : min n0 30 ≤ 30 := by omega
  have hnc : min n0 30 ≤ c2 := by omega
  go_wp2_with fail
  refine (law11_list B n0 c2 w2 hc2).mono ?_
  rintro e w3 ⟨rfl, rfl⟩
  clear hx hx1 hz hb1 hb2
  generalize min n0 30 = n at *
  generalize zs0.take n = zs at *
  generalize fewR rs0 = rs at *
  have Hzl := Lib.hid hzW.len
  have hcl := cutsB_len rs zs
  have hcz := cutsB_err rs zs
  have hmem := fun h h0 h1 => cuts_mem (rs := rs) (l := zs) (at_ := at_) h h0 h1
  have hbad := fun h => decideB_bad (rs := rs) (l := zs) (at_ := at_) h
  have hgood := fun h h0 h1 => decideB_good (rs := rs) (l := zs) (at_ := at_) h h0 h1
  rw [Hzl.out] at hcl hmem hbad hgood
  have hcu := rule_Cuts A2 B m c n c2 rs zs w2 hR hzW (by omega) (by omega) hnc
  generalize cutsB rs zs = cu at hcu hcl hcz hmem
  obtain ⟨cs, ce⟩ := cu
  simp only at hcl hcz hmem
  have Hcu := Lib.hid hcu
  have Hcz := Lib.hid hcz
  have Hmem := Lib.hid hmem
  have Hbad := Lib.hid hbad
  have Hgood := Lib.hid hgood
  clear hcu hcz hmem hbad hgood
  go_wp2_with fail
  refine Hcu.out.mono ?_
  rintro e w3 ⟨⟨A4, n4, c4, rfl, hI⟩, hb4⟩
  simp only at hI
  have hb5 := hb3.trans (hb4.mono hb3.size)
  have hR3 := (hR.below hb4).more hb4.size
  have hz3 := (hzW.below hb4).more hb4.size
  have hdec := rule_Decide A2 B m c n c2 rs zs at_ w3 hR3 hz3 (by omega) (by omega) hnc
  have Hl4 := Lib.hid hI.len
  have hl4 : n4 ≤ 1000 := by have := hI.len; omega
  generalize hdd : decideB rs zs at_ = d at hdec
  obtain ⟨d1, d2⟩ := d
  simp only at hdec
  have Hdd := Lib.hid hdd
  have Hdec := Lib.hid hdec
  clear hdd hdec hb4 hR hzW hb3 hcl
  go_wp2_with fail
  refine Hdec.out.mono ?_
  rintro e w4 ⟨rfl, hb6⟩
  have hb7 := hb5.trans (hb6.mono hb5.size)
  have hR4 := (hR3.below hb6).more hb6.size
  have hz4 := (hz3.below hb6).more hb6.size
  have hI4 := (hI.below hb6).more hb6.size
  clear hb5 hb6 hR3 hz3 hI
  rcases hce : (ce != 0) with _ | _
  · have hce0 : ce = 0 := by simpa using hce
    have hok : rulesB 32 rs = true := by
      rcases Hcz.out with h | h
      · exact h.1
      · omega
    rcases (show at_ ≤ 0 ∨ (0 < at_ ∧ (n : Int) ≤ at_) ∨ (0 < at_ ∧ at_ < n) by omega) with h1 | ⟨h1, h2⟩ | ⟨h1, h2⟩
    · have hd := Hdd.out.symm.trans (Hbad.out (.inr (.inl h1)))
      injection hd with hd1 hd2
      subst hd1 hd2
      clear hce0 hok
      go_wp2_with fail
      go_ret
      exact ⟨rfl, hb7⟩
    · have hd := Hdd.out.symm.trans (Hbad.out (.inr (.inr h2)))
      injection hd with hd1 hd2
      subst hd1 hd2
      clear hce0 hok
      go_wp2_with fail
      go_ret
      exact ⟨rfl, hb7⟩
    · have hd : (d1, d2) = sayB zs at_ rs 0 := Hdd.out.symm.trans (Hgood.out hok h1 h2)
      have Hd := Lib.hid hd
      have hme := Hmem.out hok h1 h2
      have Hme := Lib.hid hme
      clear hd hme hce0 hok
      go_wp2_with fail
      go_loopw [12, 13, 14] (fun want first i wr => ∃ (j : Nat), j ≤ m ∧ i = .int .i64 ((j : Int) - 1) ∧ want = .bool (sayB zs at_ (rs.drop j) j).1 ∧ first = .int .i64 (sayB zs at_ (rs.drop j) j).2 ∧ Below w4.heap.size w4 wr) (fun _ _ i _ => (RowKit.intOf i + 1).toNat)
      case atStart => exact ⟨m, Nat.le_refl _, rfl, by rw [Hm.out, List.drop_length]; rfl, by rw [Hm.out, List.drop_length]; rfl, Below.refl _ _⟩
      case round =>
        obtain ⟨j, hj, rfl, rfl, rfl, hbr⟩ := hrel
        rcases j with _ | q
        · have hs0 : sayB zs at_ (rs.drop 0) 0 = (d1, d2) := by rw [Hd.out]; rfl
          simp only [hs0]
          have e0 : (((0 : Nat) : Int) - 1) = -1 := rfl
          simp only [e0]
          have hbrw := hb7.trans (hbr.mono hb7.size)
          have hIr := (hI4.below hbr).more hbr.size
          generalize wr = wo at *
          clear hs0
          go_wp2_with fail
          go_loopw [15, 16] (fun v i w9 => ∃ (k : Nat), k ≤ n4 ∧ i = .int .i64 (k : Int) ∧ v = .bool ((cs.take k).contains at_) ∧ Below wo.heap.size wo w9) (fun _ i _ => n4 - (RowKit.intOf i).toNat)
          case atStart => exact ⟨0, Nat.zero_le _, rfl, rfl, Below.refl _ _⟩
          case round =>
            obtain ⟨k, hk, rfl, rfl, hb9⟩ := hrel
            rcases Nat.lt_or_ge k n4 with hlt | hge
            · obtain ⟨zb, zo, rfl, hzb, hzc⟩ := hIr.at_ (by omega)
              have hkl : k < cs.length := by rw [Hl4.out]; exact hlt
              have z1 := (cellOf hb9 hzb).trans (hzc k hkl)
              have Hsn := Lib.hid (contains_snoc cs k hkl at_)
              clear hzc
              generalize cs[k] = ck at *
              generalize (cs.take k).contains at_ = bk at *
              rcases bk with _ | _
              · go_wp2_with fail
                go_roundw
                case rel => exact ⟨k + 1, by omega, by go_num, by rw [Hsn.out]; rfl, hb9⟩
                case measure => simp [RowKit.intOf]; omega
              · go_wp2_with fail
                go_roundw
                case rel => exact ⟨k + 1, by omega, by go_num, by rw [Hsn.out]; rfl, hb9⟩
                case measure => simp [RowKit.intOf]; omega
            · have hfin : (cs.take k).contains at_ = d1 := by
                rw [List.take_of_length_le (by rw [Hl4.out]; exact hge), Hme.out, ← Hd.out]
              rw [hfin]
              have hbx := hbrw.trans (hb9.mono hbrw.size)
              clear hfin
              rcases d1 with _ | _
              · go_wp2_with fail
                go_ret
                exact ⟨rfl, hbx⟩
              · go_wp2_with fail
                go_ret
                exact ⟨rfl, hbx⟩
        · have e0 : (((q + 1 : Nat) : Int) - 1) = (q : Int) := by omega
          have hqr : q < rs.length := by rw [← Hm.out]; omega
          obtain ⟨rb, ro, rfl, hrb, hrc⟩ := ((hR4.below hbr).more hbr.size).at_ (by omega)
          obtain ⟨Al, ml, cl, Ar, mr, cr, y0, y1, y2, y3, y4, hM⟩ := hrc q hqr
          have Hdrop := Lib.hid (sayB_drop (l := zs) (at_ := at_) hqr)
          have hbrw := hb7.trans (hbr.mono hb7.size)
          have hzr := (hz4.below hbr).more hbr.size
          clear hrc
          generalize rs[q] = x at *
          obtain ⟨sl, xl, sr, xr, br⟩ := x
          simp only at y0 y1 y2 y3 y4
          have hap := rule_Applies { sl := sl, xl := xl, sr := sr, xr := xr, br := br } Al Ar B ml cl mr cr n c2 zs at_ wr hM hzr (by omega) hnc
          simp only [ruleV] at hap
          generalize sayB zs at_ (rs.drop (q + 1)) (q + 1) = s1 at *
          obtain ⟨sb, si⟩ := s1
          simp only [e0]
          rcases hA : appB zs at_ { sl := sl, xl := xl, sr := sr, xr := xr, br := br } with _ | _
          · have hst : sayB zs at_ (rs.drop q) q = (sb, si) := by rw [Hdrop.out, hA]; rfl
            rw [hA] at hap
            have Hst := Lib.hid hst
            have Hap := Lib.hid hap
            clear hst hap hA
            go_wp2_with fail
            refine Hap.out.mono ?_
            rintro e w9 ⟨rfl, hb9⟩
            go_wp2_with fail
            go_roundw
            case rel => exact ⟨q, by omega, by congr 1, by rw [Hst.out], by rw [Hst.out], hbr.trans (hb9.mono hbr.size)⟩
            case measure => simp [RowKit.intOf]
          · have hst : sayB zs at_ (rs.drop q) q = (br, (q : Int)) := by rw [Hdrop.out, hA]; rfl
            rw [hA] at hap
            have Hst := Lib.hid hst
            have Hap := Lib.hid hap
            clear hst hap hA
            go_wp2_with fail
            refine Hap.out.mono ?_
            rintro e w9 ⟨rfl, hb9⟩
            have u4 := (cellOf hb9 hrb).trans y4
            go_wp2_with fail
            go_roundw
            case rel => exact ⟨q, by omega, by congr 1, by rw [Hst.out], by rw [Hst.out], hbr.trans (hb9.mono hbr.size)⟩
            case measure => simp [RowKit.intOf]
  · have hbd : rulesB 32 rs = false := by
      have hne : ce ≠ 0 := by simpa using hce
      rcases Hcz.out with h | h
      · exact absurd h.2 hne
      · exact h.1
    have hd := Hdd.out.symm.trans (Hbad.out (.inl hbd))
    injection hd with hd1 hd2
    subst hd1 hd2
    clear hbd
    go_wp2_with fail
    go_ret
    exact ⟨rfl, hb7⟩
end Go.Vir

/- The row of RuleFirst and its tied card: for every input (under the row's conditions on the listed variables) the law returns true and its arguments read as before. -/
namespace Go.Proofs.YtpjhjjkkbbmnjaaGreatDoor
open Go Go.Vir Go.RowKit Go.Proofs Go.ChangeShapes Go.WideShapes Go.ChangeAt

set_option maxHeartbeats 800000 in
set_option maxRecDepth 100000 in
theorem first_lifted (os : Os) (started : os.Started) (H : Type) (enc : TypeId × Value → H) :
    ReturnsInHanded {} Tryz.checked os 7 .any (fun w args => (Rows.ruleFirstSpec.pre enc Tryz.prog Tryz.f7 [] false w args ∧ laidMetH Tryz.prog laid5 w) ∧ sizedMet enc Tryz.prog Tryz.f7 (OpenSpec.ofChange Rows.ruleFirstSpec) false w args)
      (Rows.ruleFirstSpec.post enc Tryz.prog Tryz.f7 false true false false) := by
  refine returns_shaped (C := Tryz.checked) (X := fun w _ => laidMetH Tryz.prog laid5 w) (fun _ _ _ hh h => h.of_heap hh) own started (by kernel_rfl) Tryz.func7
    (ChangeSpec.witness_shaped (enc := enc) (C := Tryz.checked) (os := os) (X := fun w _ => laidMetH Tryz.prog laid5 w) false (world5 os) #[.slice none 0 0, .slice none 0 0, .int .i64 0] 8 (world5_os os) (world5_shaped os) (by kernel_rfl) (by kernel_rfl) (by kernel_rfl) (world5_met os _)) ?_
  intro W base args ds gs before hval0 hW hsh hL
  have hval : ∀ (j : Nat) t v, Tryz.f7.params[j]? = some t → args[j]? = some v → Value.okWide Tryz.prog W .any base t v := hval0
  have hW' := hW
  obtain ⟨p, q, hA0, hV, rfl, _, _⟩ := hW
  have hA : DataW.TrodAll enc Tryz.prog W 0 (fun _ => true) true Tryz.f7.params.toList args.toList ds p := hA0
  rw [Tryz.params7] at hA hval
  obtain ⟨v0, v1, v2, d0, d1, d2, p0, p1, p2, rfl, rfl, rfl, h0, h1, h2⟩ := trodAll_three hA
  obtain ⟨rfl, rfl⟩ := trodVars_none hV
  have hlt : ∀ x ∈ p0 ++ p1 ++ p2, x.block < W.heap.size := fun x hx => by simpa using hW'.lt x (by simpa using hx)
  have hargs : ∀ (W' : World), Below W.heap.size W W' → DataW.TrodAll enc Tryz.prog W' 0 (fun b => decide (b < W.heap.size)) true #[42, 36, 3].toList #[v0, v1, v2].toList [d0, d1, d2] (p0 ++ (p1 ++ p2)) := fun W' hn =>
    trodAll_mk3 (Below.trod laidOut (by kernel_rfl) (of_decide_eq_true (by kernel_rfl)) h0 hn (fun x hx => hlt x (by simp [hx]))) (Below.trod laidOut (by kernel_rfl) (of_decide_eq_true (by kernel_rfl)) h1 hn (fun x hx => hlt x (by simp [hx]))) (Below.trod laidOut (by kernel_rfl) (of_decide_eq_true (by kernel_rfl)) h2 hn (fun x hx => hlt x (by simp [hx])))
  have hG := globs_of_laid hsh hL
  have key : Calls Tryz.prog 7 #[v0, v1, v2] W fun e W' => e = .returned (.bool true) ∧ Below W.heap.size W W' := by
    obtain ⟨A, m, c, rs, rfl, hc, hm, hx⟩ := open_rules (hval 0 42 v0 rfl rfl) h0
    obtain ⟨B, n, c2, zs, rfl, hc2, hz⟩ := open_numbers (hval 1 36 v1 rfl rfl) h1
    obtain ⟨at_, rfl, _, _, _⟩ := open_int Tryz.underlying3 (hval 2 3 v2 rfl rfl) h2
    exact law_first A B m c n c2 rs zs at_ W hG hx hz hc2
  refine key.mono fun e W' ⟨he, hn⟩ => ?_
  subst he
  exact ⟨_, rfl, _, _, _, [], _, [], hW', trodAll_mk1 (shut_bool Tryz.underlying4 true), hargs _ hn, rfl, hn.frame _, fun h => by cases h⟩

theorem first_holds : Rows.RuleFirstSaid :=
  OpenClaim.holds_of_wide 7 Tryz.f7 rfl rfl rfl rfl rfl rfl rfl ⟨rfl, rfl, rfl, rfl, rfl⟩ rfl rfl rfl rfl rfl (by kernel_rfl) Tryz.func7 (by kernel_rfl)
    (of_decide_eq_true (by kernel_rfl)) (by unfold Func.isWrapper; first | (rw [if_pos (by decide +kernel)]; kernel_rfl) | (rw [if_neg (by decide +kernel)]; exact ⟨rfl, rfl⟩))
    (fun os started H enc _ => first_lifted os started H enc)

theorem first_card : Rows.RuleFirstCardSaid :=
  Claim7.holds_tied_plain_at .later [] [.data, .handle, .sentinel, .sentinel, .pinned] true (true, "f3439994263bda936d81294eb39ac78299b5f0291b6d31f5858efdaf1e51f421") true
    first_holds (fun _ h => by cases h) (by kernel_rfl) (fun _ h => by cases h) ruleFirst_row_tie rfl ⟨rfl, rfl⟩ (by kernel_rfl) rfl
    (fun f fn hf hfn => by
      obtain rfl : f = 7 := Option.some.inj ((show Tryz.prog.funcNamed "virama/viramalaw11.RuleFirst" = some 7 by kernel_rfl).symm.trans hf) |>.symm
      obtain rfl : fn = Tryz.f7 := (Option.some.inj (Tryz.func7.symm.trans hfn)).symm
      exact ⟨by kernel_rfl, fun j t ht => by
        rw [Tryz.params7] at ht
        have hm : t ∈ [42, 36, 3] := by simpa using Array.mem_of_getElem? ht
        have hall : ([42, 36, 3].all fun u => !Tryz.prog.wantsStandIn u) = true := by kernel_rfl
        exact (show Tryz.prog.wantsStandIn t = false by simpa using List.all_eq_true.1 hall t hm)⟩)
    (by kernel_rfl)
#print axioms first_card
end Go.Proofs.YtpjhjjkkbbmnjaaGreatDoor
