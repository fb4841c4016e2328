/- The row of RuleMore and its tied card: for every input (under the row's conditions on the listed variables) the law returns true and its arguments read as before. -/
import Derived.Test.YtpjhjjkkbbmnjaaGreatDoorBj
import Derived.Test.YtpjhjjkkbbmnjaaGreatDoorTie
import Derived.Test.YtpjhjjkkbbmnjaaGreatDoorCards
/- viramalaw11: RuleMore. -/
namespace Go.Vir
open Go Go.RowKit Go.Proofs Go.Shelf
attribute [local go_sem] Oper.semAt_some

/-- What two lists of rules say, one behind the other. -/
theorem decide_more {rs ss : List RuleV} {l : List Int} {at_ : Int} (hl : rs.length + ss.length ≤ 40) :
    ((rulesB 32 (rs ++ ss) = false ∨ at_ ≤ 0 ∨ (l.length : Int) ≤ at_) ∧ decideB (rs ++ ss) l at_ = (false, -1)) ∨
    (rulesB 32 (rs ++ ss) = true ∧ 0 < at_ ∧ at_ < (l.length : Int) ∧
      ((0 ≤ (decideB rs l at_).2 ∧ decideB (rs ++ ss) l at_ = decideB rs l at_) ∨
       ((decideB rs l at_).2 < 0 ∧ (decideB (rs ++ ss) l at_).1 = (decideB ss l at_).1 ∧
        (((decideB ss l at_).2 < 0 ∧ (decideB (rs ++ ss) l at_).2 = -1) ∨ (0 ≤ (decideB ss l at_).2 ∧ (decideB ss l at_).2 ≤ 100 ∧ (decideB (rs ++ ss) l at_).2 = (decideB ss l at_).2 + rs.length))))) := by
  rcases h : rulesB 32 (rs ++ ss) with _ | _
  · left; exact ⟨.inl rfl, decideB_bad (.inl h)⟩
  · rcases (show at_ ≤ 0 ∨ (0 < at_ ∧ (l.length : Int) ≤ at_) ∨ (0 < at_ ∧ at_ < (l.length : Int)) by omega) with h1 | ⟨h1, h2⟩ | ⟨h1, h2⟩
    · left; exact ⟨.inr (.inl h1), decideB_bad (.inr (.inl h1))⟩
    · left; exact ⟨.inr (.inr h2), decideB_bad (.inr (.inr h2))⟩
    · right
      refine ⟨rfl, h1, h2, ?_⟩
      have hb := h
      rw [rulesB_app 32 rs ss hl, Bool.and_eq_true] at hb
      rw [decideB_good h h1 h2, decideB_good hb.1 h1 h2, decideB_good hb.2 h1 h2, sayB_app]
      have hr := sayB_ge l at_ rs 0
      have hs := sayB_ge l at_ ss 0
      rcases hr with ⟨a, b⟩ | ⟨a, b⟩
      · right
        rw [if_pos (by omega), sayB_shift]
        refine ⟨by omega, rfl, ?_⟩
        rcases hs with ⟨a2, b2⟩ | ⟨a2, b2⟩
        · left
          rw [if_pos (by omega)]
          exact ⟨by omega, a2⟩
        · right
          rw [if_neg (by omega)]
          exact ⟨by omega, by omega, rfl⟩
      · left
        rw [if_neg (by omega)]
        exact ⟨by omega, rfl⟩

set_option maxRecDepth 100000 in
set_option maxHeartbeats 8000000 in
theorem law_more (A E B : Option Addr) (m0 c0 p0 c1 n0 c2 : Nat) (rs0 ss0 : List RuleV) (zs0 : List Int) (at_ : Int) (w : World) (hG : Globs w) (hx : RlsI w w.heap.size A m0 rs0) (hy : RlsI w w.heap.size E p0 ss0) (hz : Ints w w.heap.size B n0 zs0)
    (hc0 : m0 ≤ c0) (hc1 : p0 ≤ c1) (hc2 : n0 ≤ c2) :
    Calls Tryz.prog 9 #[.slice A m0 c0, .slice E p0 c1, .slice B n0 c2, .int .i64 at_] w fun e w' => e = .returned (.bool true) ∧ Below w.heap.size w w' := by
  go_enter Tryz.func9, Tryz.ntmps9
  go_wp2_with fail
  refine (law11_shown _ hG).mono ?_
  rintro e w1 ⟨rfl, hb1⟩
  have hx1 := ((hx.below hb1).more hb1.size).take (min m0 20) (by omega)
  have hfe := law11_FewN A (min m0 20) c0 (rs0.take (min m0 20)) w1 hx1
  have Hfe := Lib.hid hfe
  have hlr : (fewR (rs0.take (min m0 20))).length ≤ 20 := by rw [fewR_len, List.length_take]; omega
  clear hx1 hfe
  go_wp2_with fail
  simp only [show (min (m0 : Int) 20).toNat = min m0 20 by omega]
  refine Hfe.out.mono ?_
  rintro e w2 ⟨⟨A2, m, c, rfl, hm, hmc, hR, hm42, hno⟩, hb2⟩
  have Hm := Lib.hid hm
  have Hno := Lib.hid hno
  have hb3 := hb1.trans (hb2.mono hb1.size)
  have hy1 := ((hy.below hb3).more hb3.size).take (min p0 20) (by omega)
  have hfe := law11_FewN E (min p0 20) c1 (ss0.take (min p0 20)) w2 hy1
  have Hfe2 := Lib.hid hfe
  have hls : (fewR (ss0.take (min p0 20))).length ≤ 20 := by rw [fewR_len, List.length_take]; omega
  clear hm hno Hfe hx hy1 hfe hb1 hb2
  go_wp2_with fail
  simp only [show (min (p0 : Int) 20).toNat = min p0 20 by omega]
  refine Hfe2.out.mono ?_
  rintro e w3 ⟨⟨E2, p, d, rfl, hp, hpd, hS, hp42, hno2⟩, hb4⟩
  have Hp := Lib.hid hp
  have Hno2 := Lib.hid hno2
  have hb5 := hb3.trans (hb4.mono hb3.size)
  have hR3 := (hR.below hb4).more hb4.size
  have hzW := ((hz.below hb5).more hb5.size).take (min n0 30) (by omega)
  have hn30 : min n0 30 ≤ 30 := by omega
  have hnc : min n0 30 ≤ c2 := by omega
  clear hp hno2 Hfe2 hy hz hb3 hb4 hR
  go_wp2_with fail
  refine (law11_list B n0 c2 w3 hc2).mono ?_
  rintro e w4 ⟨rfl, rfl⟩
  generalize min n0 30 = n at *
  generalize zs0.take n = zs at *
  generalize fewR (rs0.take (min m0 20)) = rs at *
  generalize fewR (ss0.take (min p0 20)) = ss at *
  obtain ⟨xs, hrv, hxl, hxc⟩ := hR3.cells
  obtain ⟨ys, hsv, hyl, hyc⟩ := hS.cells
  obtain ⟨i0, hi0, hz0, hz1, hz2⟩ := info_parts rule_info
  have hm20 : m ≤ 20 := by rw [Hm.out]; exact hlr
  have hp20 : p ≤ 20 := by rw [Hp.out]; exact hls
  have Hxl := Lib.hid hxl
  have Hxc := Lib.hid hxc
  have Hyl := Lib.hid hyl
  have Hyc := Lib.hid hyc
  have tok : True := trivial
  have hon := World.ownsRow_nil w3 w3.heap.size 50 5
  have hbr := Below.refl w3.heap.size w3
  clear hxl hxc hyl hyc
  go_wp2_with (first
    | (have _t := tok; at_builtin; refine wpList_append_any rfl _ _ 42 rfl w3.heap.size 50 i0 (.agg #[.bool false, .slice none 0 0, .bool false, .slice none 0 0, .bool false]) 5 72 Tryz.underlying42 hi0 hz0 hz1 hz2 rfl (by decide) (.slice none 0 0) 0 [] rfl hon A2 m c xs rfl Hno.out Hxl.out Hxc.out hrv.one (by simp only [maxLen]; omega) (by omega) (Nat.le_refl _) ?_; clear tok; intro v1 w8 hown8 hgrow8
       have hb8 : Below w3.heap.size w3 w8 := hbr.grown hgrow8 (Nat.le_refl _) (fun g hg => by simp [Value.ownBlock] at hg)
       have hyc8 : ∀ ad, E2 = some ad → ∀ (j : Nat) (u : Value), ys[j]? = some u → w8.cell? (ad.add j) = some u := fun ad hA j u hj => by
         have h1 := Hyc.out ad hA j u hj
         exact (World.cell?_of_block (hb8.block _ (World.block_lt_of_cell? w3 _ h1))).trans h1
       have Hy8 := Lib.hid hyc8
       have Hlt8 := Lib.hid hown8.lt
       clear hyc8 hgrow8)
    | (at_builtin; refine wpList_append_any rfl _ _ 42 rfl w3.heap.size 50 i0 (.agg #[.bool false, .slice none 0 0, .bool false, .slice none 0 0, .bool false]) 5 72 Tryz.underlying42 hi0 hz0 hz1 hz2 rfl (by decide) v1 (0 + m) ([] ++ xs) rfl hown8 E2 p d ys rfl Hno2.out Hyl.out Hy8.out hsv.one (by simp only [maxLen]; omega) (by omega) hb8.size ?_; intro v2 w9 hown9 hgrow9
       have hb9 : Below w3.heap.size w3 w9 := hb8.grown hgrow9 hb8.size (fun g hg => (Hlt8.out g hg).1)
       clear hgrow9))
  have hal : (rs ++ ss).length = 0 + m + p := by rw [List.length_append, ← Hm.out, ← Hp.out]; omega
  have hrv9 : RVs w9 w3.heap.size 0 none (rs ++ ss) ([] ++ xs ++ ys) := (hsv.below hb9 (Nat.le_refl _)).app (hrv.below hb9 (Nat.le_refl _))
  rw [← hal] at hown9
  obtain ⟨A9, n9, c9, rfl, hn9, hc9, hR9⟩ := rls_own hown9 hrv9 hb9.size
  have hb10 := hb5.trans (hb9.mono hb5.size)
  have hl9 : n9 ≤ 40 := by omega
  have hd1 := fun W (hW : Below w9.heap.size w9 W) => rule_Decide A2 B m c n c2 rs zs at_ W ((((hR3.below hb9).more hb9.size).below hW).more hW.size) ((((hzW.below hb9).more hb9.size).below hW).more hW.size) (by omega) (by omega) hnc
  have hd2 := fun W (hW : Below w9.heap.size w9 W) => rule_Decide E2 B p d n c2 ss zs at_ W ((((hS.below hb9).more hb9.size).below hW).more hW.size) ((((hzW.below hb9).more hb9.size).below hW).more hW.size) (by omega) (by omega) hnc
  have hd3 := fun W (hW : Below w9.heap.size w9 W) => rule_Decide A9 B n9 c9 n c2 (rs ++ ss) zs at_ W ((hR9.below hW).more hW.size) ((((hzW.below hb9).more hb9.size).below hW).more hW.size) (by omega) (by omega) hnc
  have hri := fun W (hW : Below w9.heap.size w9 W) => rule_Right A9 n9 c9 (rs ++ ss) 32 W ((hR9.below hW).more hW.size) (by omega)
  have hzl := hzW.len
  have hmore := decide_more (rs := rs) (ss := ss) (l := zs) (at_ := at_) (by omega)
  rw [hzl] at hmore
  rw [← Hm.out] at hmore
  generalize decideB rs zs at_ = e1 at *
  generalize decideB ss zs at_ = e2 at *
  generalize decideB (rs ++ ss) zs at_ = e3 at *
  generalize rulesB 32 (rs ++ ss) = rg at *
  obtain ⟨x, i⟩ := e1
  obtain ⟨y, j⟩ := e2
  obtain ⟨z, k⟩ := e3
  simp only at hd1 hd2 hd3 hmore
  have Hd1 := Lib.hid hd1
  have Hd2 := Lib.hid hd2
  have Hd3 := Lib.hid hd3
  have Hri := Lib.hid hri
  have Hmore := Lib.hid hmore
  clear hd1 hd2 hd3 hri hmore hown9 hrv9 hR9 hR3 hS hzW hzl hrv hsv hown8 hb8 hal hn9 hb9
  refine (Hd1.out _ (Below.refl _ _)).mono ?_
  rintro e w10 ⟨rfl, hb11⟩
  go_wp2_with fail
  refine (Hd2.out _ hb11).mono ?_
  rintro e w11 ⟨rfl, hb12⟩
  have hb13 := hb11.trans (hb12.mono hb11.size)
  go_wp2_with fail
  refine (Hd3.out _ hb13).mono ?_
  rintro e w12 ⟨rfl, hb14⟩
  have hb15 := hb13.trans (hb14.mono hb13.size)
  clear hb11 hb12 hb13 hb14
  go_wp2_with fail
  refine (Hri.out _ hb15).mono ?_
  rintro e w13 ⟨rfl, hb16⟩
  have hb17 := hb10.trans ((hb15.trans (hb16.mono hb15.size)).mono hb10.size)
  clear hb15 hb16 hb10
  rcases Hmore.out with ⟨h1, h2⟩ | ⟨h1, h2, h3, h4⟩
  · injection h2 with e1 e2
    subst e1 e2
    rcases rg with _ | _
    · go_wp2_with fail
      go_ret
      exact ⟨rfl, hb17⟩
    · rcases (show at_ ≤ 0 ∨ (0 < at_ ∧ (n : Int) ≤ at_) by rcases h1 with h | h | h; cases h; omega; omega) with h3 | ⟨h3, h4⟩
      · go_wp2_with fail
        go_ret
        exact ⟨rfl, hb17⟩
      · go_wp2_with fail
        go_ret
        exact ⟨rfl, hb17⟩
  · subst h1
    rcases h4 with ⟨h5, h6⟩ | ⟨h5, h6, h7⟩
    · injection h6 with e1 e2
      subst e1 e2
      go_wp2_with fail
      go_ret
      exact ⟨ret_bool (by simp), hb17⟩
    · subst h6
      rcases h7 with ⟨h8, h9⟩ | ⟨h8, h8b, h9⟩
      · subst h9
        go_wp2_with fail
        go_ret
        exact ⟨ret_bool (by simp), hb17⟩
      · subst h9
        go_wp2_with fail
        go_ret
        exact ⟨ret_bool (by simp), hb17⟩
end Go.Vir

/- The row of RuleMore and its tied card: for every input (under the row's conditions on the listed variables) the law returns true and its arguments read as before. -/
namespace Go.Proofs.YtpjhjjkkbbmnjaaGreatDoor
open Go Go.Vir Go.RowKit Go.Proofs Go.ChangeShapes Go.WideShapes Go.ChangeAt

set_option maxHeartbeats 800000 in
set_option maxRecDepth 100000 in
theorem more_lifted (os : Os) (started : os.Started) (H : Type) (enc : TypeId × Value → H) :
    ReturnsInHanded {} Tryz.checked os 9 .any (fun w args => (Rows.ruleMoreSpec.pre enc Tryz.prog Tryz.f9 [] false w args ∧ laidMetH Tryz.prog laid5 w) ∧ sizedMet enc Tryz.prog Tryz.f9 (OpenSpec.ofChange Rows.ruleMoreSpec) false w args)
      (Rows.ruleMoreSpec.post enc Tryz.prog Tryz.f9 false true false false) := by
  refine returns_shaped (C := Tryz.checked) (X := fun w _ => laidMetH Tryz.prog laid5 w) (fun _ _ _ hh h => h.of_heap hh) own started (by kernel_rfl) Tryz.func9
    (ChangeSpec.witness_shaped (enc := enc) (C := Tryz.checked) (os := os) (X := fun w _ => laidMetH Tryz.prog laid5 w) false (world5 os) #[.slice none 0 0, .slice none 0 0, .slice none 0 0, .int .i64 0] 8 (world5_os os) (world5_shaped os) (by kernel_rfl) (by kernel_rfl) (by kernel_rfl) (world5_met os _)) ?_
  intro W base args ds gs before hval0 hW hsh hL
  have hval : ∀ (j : Nat) t v, Tryz.f9.params[j]? = some t → args[j]? = some v → Value.okWide Tryz.prog W .any base t v := hval0
  have hW' := hW
  obtain ⟨p, q, hA0, hV, rfl, _, _⟩ := hW
  have hA : DataW.TrodAll enc Tryz.prog W 0 (fun _ => true) true Tryz.f9.params.toList args.toList ds p := hA0
  rw [Tryz.params9] at hA hval
  obtain ⟨v0, v1, v2, v3, d0, d1, d2, d3, p0, p1, p2, p3, rfl, rfl, rfl, h0, h1, h2, h3⟩ := trodAll_four hA
  obtain ⟨rfl, rfl⟩ := trodVars_none hV
  have hlt : ∀ x ∈ p0 ++ p1 ++ p2 ++ p3, x.block < W.heap.size := fun x hx => by simpa using hW'.lt x (by simpa using hx)
  have hargs : ∀ (W' : World), Below W.heap.size W W' → DataW.TrodAll enc Tryz.prog W' 0 (fun b => decide (b < W.heap.size)) true #[42, 42, 36, 3].toList #[v0, v1, v2, v3].toList [d0, d1, d2, d3] (p0 ++ (p1 ++ (p2 ++ p3))) := fun W' hn =>
    trodAll_mk4 (Below.trod laidOut (by kernel_rfl) (of_decide_eq_true (by kernel_rfl)) h0 hn (fun x hx => hlt x (by simp [hx]))) (Below.trod laidOut (by kernel_rfl) (of_decide_eq_true (by kernel_rfl)) h1 hn (fun x hx => hlt x (by simp [hx]))) (Below.trod laidOut (by kernel_rfl) (of_decide_eq_true (by kernel_rfl)) h2 hn (fun x hx => hlt x (by simp [hx]))) (Below.trod laidOut (by kernel_rfl) (of_decide_eq_true (by kernel_rfl)) h3 hn (fun x hx => hlt x (by simp [hx])))
  have hG := globs_of_laid hsh hL
  have key : Calls Tryz.prog 9 #[v0, v1, v2, v3] W fun e W' => e = .returned (.bool true) ∧ Below W.heap.size W W' := by
    obtain ⟨A, m, c, rs, rfl, hc, hm, hx⟩ := open_rules (hval 0 42 v0 rfl rfl) h0
    obtain ⟨A2, m2, c2, rs2, rfl, hc2, hm2, hx2⟩ := open_rules (hval 1 42 v1 rfl rfl) h1
    obtain ⟨B, n, c3, zs, rfl, hc3, hz⟩ := open_numbers (hval 2 36 v2 rfl rfl) h2
    obtain ⟨at_, rfl, _, _, _⟩ := open_int Tryz.underlying3 (hval 3 3 v3 rfl rfl) h3
    exact law_more A A2 B m c m2 c2 n c3 rs rs2 zs at_ W hG hx hx2 hz hc hc2 hc3
  refine key.mono fun e W' ⟨he, hn⟩ => ?_
  subst he
  exact ⟨_, rfl, _, _, _, [], _, [], hW', trodAll_mk1 (shut_bool Tryz.underlying4 true), hargs _ hn, rfl, hn.frame _, fun h => by cases h⟩

theorem more_holds : Rows.RuleMoreSaid :=
  OpenClaim.holds_of_wide 9 Tryz.f9 rfl rfl rfl rfl rfl rfl rfl ⟨rfl, rfl, rfl, rfl, rfl⟩ rfl rfl rfl rfl rfl (by kernel_rfl) Tryz.func9 (by kernel_rfl)
    (of_decide_eq_true (by kernel_rfl)) (by unfold Func.isWrapper; first | (rw [if_pos (by decide +kernel)]; kernel_rfl) | (rw [if_neg (by decide +kernel)]; exact ⟨rfl, rfl⟩))
    (fun os started H enc _ => more_lifted os started H enc)

theorem more_card : Rows.RuleMoreCardSaid :=
  Claim7.holds_tied_plain_at .later [] [.data, .handle, .sentinel, .sentinel, .pinned] true (true, "f3439994263bda936d81294eb39ac78299b5f0291b6d31f5858efdaf1e51f421") true
    more_holds (fun _ h => by cases h) (by kernel_rfl) (fun _ h => by cases h) ruleMore_row_tie rfl ⟨rfl, rfl⟩ (by kernel_rfl) rfl
    (fun f fn hf hfn => by
      obtain rfl : f = 9 := Option.some.inj ((show Tryz.prog.funcNamed "virama/viramalaw11.RuleMore" = some 9 by kernel_rfl).symm.trans hf) |>.symm
      obtain rfl : fn = Tryz.f9 := (Option.some.inj (Tryz.func9.symm.trans hfn)).symm
      exact ⟨by kernel_rfl, fun j t ht => by
        rw [Tryz.params9] at ht
        have hm : t ∈ [42, 42, 36, 3] := by simpa using Array.mem_of_getElem? ht
        have hall : ([42, 42, 36, 3].all fun u => !Tryz.prog.wantsStandIn u) = true := by kernel_rfl
        exact (show Tryz.prog.wantsStandIn t = false by simpa using List.all_eq_true.1 hall t hm)⟩)
    (by kernel_rfl)
#print axioms more_card
end Go.Proofs.YtpjhjjkkbbmnjaaGreatDoor
