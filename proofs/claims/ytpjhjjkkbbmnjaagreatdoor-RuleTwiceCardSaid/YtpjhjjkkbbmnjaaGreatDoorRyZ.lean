/- The row of RuleTwice and its tied card: for every input (under the row's conditions on the listed variables) the law returns true and its arguments read as before. -/
import Derived.Test.YtpjhjjkkbbmnjaaGreatDoorBj
import Derived.Test.YtpjhjjkkbbmnjaaGreatDoorTie
import Derived.Test.YtpjhjjkkbbmnjaaGreatDoorCards
/- viramalaw11: RuleTwice. -/
namespace Go.Vir
open Go Go.RowKit Go.Proofs Go.Shelf
attribute [local go_sem] Oper.semAt_some

theorem cutsB_err2 (rs : List RuleV) (l : List Int) : (cutsB rs l).2 = 0 ∨ ((cutsB rs l).2 = 90 ∧ (cutsB rs l).1 = []) := by
  unfold cutsB
  split
  · left; rfl
  · right; exact ⟨rfl, rfl⟩
theorem cutsB_len2 (rs : List RuleV) (l : List Int) : (cutsB rs l).1.length ≤ l.length + 2 := by
  have := insB_len rs l l.length
  unfold cutsB
  split
  · split <;> simp <;> omega
  · simp

set_option maxRecDepth 100000 in
set_option maxHeartbeats 8000000 in
theorem law_twice (A B : Option Addr) (m0 c0 n0 c2 : Nat) (rs0 : List RuleV) (zs0 : List Int) (w : World) (hG : Globs w) (hx : RlsI w w.heap.size A m0 rs0) (hz : Ints w w.heap.size B n0 zs0) (hc0 : m0 ≤ c0) (hc2 : n0 ≤ c2) :
    Calls Tryz.prog 11 #[.slice A m0 c0, .slice B n0 c2] w fun e w' => e = .returned (.bool true) ∧ Below w.heap.size w w' := by
  go_enter Tryz.func11, Tryz.ntmps11
  go_wp2_with fail
  refine (law11_shown _ hG).mono ?_
  rintro e w1 ⟨rfl, hb1⟩
  have hx1 := ((hx.below hb1).more hb1.size).take (min m0 20) (by omega)
  have hfe := law11_FewN A (min m0 20) c0 (rs0.take (min m0 20)) w1 hx1
  have Hfe := Lib.hid hfe
  have hlr : (fewR (rs0.take (min m0 20))).length ≤ 20 := by rw [fewR_len, List.length_take]; omega
  clear hx1 hfe
  go_wp2_with fail
  simp only [show (min (m0 : Int) 20).toNat = min m0 20 by omega]
  refine Hfe.out.mono ?_
  rintro e w2 ⟨⟨A2, m, c, rfl, hm, hmc, hR, hm42, hno⟩, hb2⟩
  have Hm := Lib.hid hm
  have Hno := Lib.hid hno
  clear hm hno Hfe hx
  have hb3 := hb1.trans (hb2.mono hb1.size)
  have hzW := ((hz.below hb3).more hb3.size).take (min n0 30) (by omega)
  have hn30 : min n0 30 ≤ 30 := by omega
  have hnc : min n0 30 ≤ c2 := by omega
  go_wp2_with fail
  refine (law11_list B n0 c2 w2 hc2).mono ?_
  rintro e w3 ⟨rfl, rfl⟩
  clear hz hb1 hb2
  generalize min n0 30 = n at *
  generalize zs0.take n = zs at *
  generalize fewR (rs0.take (min m0 20)) = rs at *
  obtain ⟨xs, hrv, hxl, hxc⟩ := hR.cells
  obtain ⟨i0, hi0, hz0, hz1, hz2⟩ := info_parts rule_info
  have hm20 : m ≤ 20 := by rw [Hm.out]; exact hlr
  have Hxl := Lib.hid hxl
  have Hxc := Lib.hid hxc
  have tok : True := trivial
  have hon := World.ownsRow_nil w2 w2.heap.size 50 5
  have hbr := Below.refl w2.heap.size w2
  clear hxl hxc
  go_wp2_with (first
    | (have _t := tok; at_builtin; refine wpList_append_any rfl _ _ 42 rfl w2.heap.size 50 i0 (.agg #[.bool false, .slice none 0 0, .bool false, .slice none 0 0, .bool false]) 5 72 Tryz.underlying42 hi0 hz0 hz1 hz2 rfl (by decide) (.slice none 0 0) 0 [] rfl hon A2 m c xs rfl Hno.out Hxl.out Hxc.out hrv.one (by simp only [maxLen]; omega) (by omega) (Nat.le_refl _) ?_; clear tok; intro v1 w8 hown8 hgrow8
       have hb8 : Below w2.heap.size w2 w8 := hbr.grown hgrow8 (Nat.le_refl _) (fun g hg => by simp [Value.ownBlock] at hg)
       have hxc8 : ∀ ad, A2 = some ad → ∀ (j : Nat) (u : Value), xs[j]? = some u → w8.cell? (ad.add j) = some u := fun ad hA j u hj => by
         have h1 := Hxc.out ad hA j u hj
         exact (World.cell?_of_block (hb8.block _ (World.block_lt_of_cell? w2 _ h1))).trans h1
       have Hx8 := Lib.hid hxc8
       have Hlt8 := Lib.hid hown8.lt
       clear hxc8 hgrow8)
    | (at_builtin; refine wpList_append_any rfl _ _ 42 rfl w2.heap.size 50 i0 (.agg #[.bool false, .slice none 0 0, .bool false, .slice none 0 0, .bool false]) 5 72 Tryz.underlying42 hi0 hz0 hz1 hz2 rfl (by decide) v1 (0 + m) ([] ++ xs) rfl hown8 A2 m c xs rfl Hno.out Hxl.out Hx8.out hrv.one (by simp only [maxLen]; omega) (by omega) hb8.size ?_; intro v2 w9 hown9 hgrow9
       have hb9 : Below w2.heap.size w2 w9 := hb8.grown hgrow9 hb8.size (fun g hg => (Hlt8.out g hg).1)
       clear hgrow9))
  have hal : (rs ++ rs).length = 0 + m + m := by rw [List.length_append, ← Hm.out]; omega
  have hrv9 : RVs w9 w2.heap.size 0 none (rs ++ rs) ([] ++ xs ++ xs) := by
    have h1 := hrv.below hb9 (Nat.le_refl _)
    exact h1.app h1
  rw [← hal] at hown9
  obtain ⟨A9, n9, c9, rfl, hn9, hc9, hR9⟩ := rls_own hown9 hrv9 hb9.size
  have hb10 := hb3.trans (hb9.mono hb3.size)
  have hRw := (hR.below hb9).more hb9.size
  have hzw := (hzW.below hb9).more hb9.size
  have hl9 : n9 ≤ 40 := by omega
  have hcl := cutsB_len2 rs zs
  have hce := cutsB_err2 rs zs
  have hcu := rule_Cuts A2 B m c n c2 rs zs w9 hRw hzw (by omega) (by omega) hnc
  have hcv := fun W (hW : Below w9.heap.size w9 W) => rule_Cuts A9 B n9 c9 n c2 (rs ++ rs) zs W ((hR9.below hW).more hW.size) ((hzw.below hW).more hW.size) (by omega) (by omega) hnc
  rw [cuts_twice hlr] at hcv
  have hzl := hzW.len
  rw [hzl] at hcl
  generalize cutsB rs zs = cu at *
  obtain ⟨cs, ce⟩ := cu
  simp only at hcl hce
  have Hcu := Lib.hid hcu
  have Hcv := Lib.hid hcv
  have Hce := Lib.hid hce
  have Hhal := Lib.hid hal
  have Hn9 := Lib.hid hn9
  clear hcu hcv hce hown9 hrv9 hR9 hRw hzw hR hzW hzl hrv hown8 hb8 hal hn9
  refine Hcu.out.mono ?_
  rintro e w10 ⟨⟨A4, n4, c4, rfl, hI⟩, hb11⟩
  simp only at hI
  have hb12 := hb10.trans (hb11.mono hb10.size)
  have hl4 : n4 ≤ 1000 := by have := hI.len; omega
  go_wp2_with fail
  refine (Hcv.out _ hb11).mono ?_
  rintro e w11 ⟨⟨A5, n5, c5, rfl, hJ⟩, hb13⟩
  simp only at hJ
  have hb14 := hb12.trans (hb13.mono hb12.size)
  have hint := ref_Ints A4 A5 n4 c4 n5 c5 cs cs w11 ((hI.below hb13).more hb13.size) hJ (by omega)
  rw [decide_eq_true rfl] at hint
  have Hint := Lib.hid hint
  have hz4 : cs = [] → n4 = 0 := fun e => by rw [← hI.len, e]; rfl
  have Hz4 := Lib.hid hz4
  clear hint hI hJ hz4 hcl
  rcases Hce.out with h0 | ⟨h0, h1⟩
  · subst h0
    go_wp2_with fail
    refine Hint.out.mono ?_
    rintro e w12 ⟨rfl, hb15⟩
    go_wp2_with fail
    go_ret
    exact ⟨rfl, hb14.trans (hb15.mono hb14.size)⟩
  · have h2 := Hz4.out h1
    subst h0 h2
    go_wp2_with fail
    refine Hint.out.mono ?_
    rintro e w12 ⟨rfl, hb15⟩
    go_wp2_with fail
    go_ret
    exact ⟨rfl, hb14.trans (hb15.mono hb14.size)⟩
end Go.Vir

/- The row of RuleTwice and its tied card: for every input (under the row's conditions on the listed variables) the law returns true and its arguments read as before. -/
namespace Go.Proofs.YtpjhjjkkbbmnjaaGreatDoor
open Go Go.Vir Go.RowKit Go.Proofs Go.ChangeShapes Go.WideShapes Go.ChangeAt

set_option maxHeartbeats 800000 in
set_option maxRecDepth 100000 in
theorem twice_lifted (os : Os) (started : os.Started) (H : Type) (enc : TypeId × Value → H) :
    ReturnsInHanded {} Tryz.checked os 11 .any (fun w args => (Rows.ruleTwiceSpec.pre enc Tryz.prog Tryz.f11 [] false w args ∧ laidMetH Tryz.prog laid5 w) ∧ sizedMet enc Tryz.prog Tryz.f11 (OpenSpec.ofChange Rows.ruleTwiceSpec) false w args)
      (Rows.ruleTwiceSpec.post enc Tryz.prog Tryz.f11 false true false false) := by
  refine returns_shaped (C := Tryz.checked) (X := fun w _ => laidMetH Tryz.prog laid5 w) (fun _ _ _ hh h => h.of_heap hh) own started (by kernel_rfl) Tryz.func11
    (ChangeSpec.witness_shaped (enc := enc) (C := Tryz.checked) (os := os) (X := fun w _ => laidMetH Tryz.prog laid5 w) false (world5 os) #[.slice none 0 0, .slice none 0 0] 8 (world5_os os) (world5_shaped os) (by kernel_rfl) (by kernel_rfl) (by kernel_rfl) (world5_met os _)) ?_
  intro W base args ds gs before hval0 hW hsh hL
  have hval : ∀ (j : Nat) t v, Tryz.f11.params[j]? = some t → args[j]? = some v → Value.okWide Tryz.prog W .any base t v := hval0
  have hW' := hW
  obtain ⟨p, q, hA0, hV, rfl, _, _⟩ := hW
  have hA : DataW.TrodAll enc Tryz.prog W 0 (fun _ => true) true Tryz.f11.params.toList args.toList ds p := hA0
  rw [Tryz.params11] at hA hval
  obtain ⟨v0, v1, d0, d1, p0, p1, rfl, rfl, rfl, h0, h1⟩ := trodAll_two hA
  obtain ⟨rfl, rfl⟩ := trodVars_none hV
  have hlt : ∀ x ∈ p0 ++ p1, x.block < W.heap.size := fun x hx => by simpa using hW'.lt x (by simpa using hx)
  have hargs : ∀ (W' : World), Below W.heap.size W W' → DataW.TrodAll enc Tryz.prog W' 0 (fun b => decide (b < W.heap.size)) true #[42, 36].toList #[v0, v1].toList [d0, d1] (p0 ++ p1) := fun W' hn =>
    trodAll_mk2 (Below.trod laidOut (by kernel_rfl) (of_decide_eq_true (by kernel_rfl)) h0 hn (fun x hx => hlt x (by simp [hx]))) (Below.trod laidOut (by kernel_rfl) (of_decide_eq_true (by kernel_rfl)) h1 hn (fun x hx => hlt x (by simp [hx])))
  have hG := globs_of_laid hsh hL
  have key : Calls Tryz.prog 11 #[v0, v1] W fun e W' => e = .returned (.bool true) ∧ Below W.heap.size W W' := by
    obtain ⟨A, m, c, rs, rfl, hc, hm, hx⟩ := open_rules (hval 0 42 v0 rfl rfl) h0
    obtain ⟨B, n, c2, zs, rfl, hc2, hz⟩ := open_numbers (hval 1 36 v1 rfl rfl) h1
    exact law_twice A B m c n c2 rs zs W hG hx hz hc hc2
  refine key.mono fun e W' ⟨he, hn⟩ => ?_
  subst he
  exact ⟨_, rfl, _, _, _, [], _, [], hW', trodAll_mk1 (shut_bool Tryz.underlying4 true), hargs _ hn, rfl, hn.frame _, fun h => by cases h⟩

theorem twice_holds : Rows.RuleTwiceSaid :=
  OpenClaim.holds_of_wide 11 Tryz.f11 rfl rfl rfl rfl rfl rfl rfl ⟨rfl, rfl, rfl, rfl, rfl⟩ rfl rfl rfl rfl rfl (by kernel_rfl) Tryz.func11 (by kernel_rfl)
    (of_decide_eq_true (by kernel_rfl)) (by unfold Func.isWrapper; first | (rw [if_pos (by decide +kernel)]; kernel_rfl) | (rw [if_neg (by decide +kernel)]; exact ⟨rfl, rfl⟩))
    (fun os started H enc _ => twice_lifted os started H enc)

theorem twice_card : Rows.RuleTwiceCardSaid :=
  Claim7.holds_tied_plain_at .later [] [.data, .handle, .sentinel, .sentinel, .pinned] true (true, "f3439994263bda936d81294eb39ac78299b5f0291b6d31f5858efdaf1e51f421") true
    twice_holds (fun _ h => by cases h) (by kernel_rfl) (fun _ h => by cases h) ruleTwice_row_tie rfl ⟨rfl, rfl⟩ (by kernel_rfl) rfl
    (fun f fn hf hfn => by
      obtain rfl : f = 11 := Option.some.inj ((show Tryz.prog.funcNamed "virama/viramalaw11.RuleTwice" = some 11 by kernel_rfl).symm.trans hf) |>.symm
      obtain rfl : fn = Tryz.f11 := (Option.some.inj (Tryz.func11.symm.trans hfn)).symm
      exact ⟨by kernel_rfl, fun j t ht => by
        rw [Tryz.params11] at ht
        have hm : t ∈ [42, 36] := by simpa using Array.mem_of_getElem? ht
        have hall : ([42, 36].all fun u => !Tryz.prog.wantsStandIn u) = true := by kernel_rfl
        exact (show Tryz.prog.wantsStandIn t = false by simpa using List.all_eq_true.1 hall t hm)⟩)
    (by kernel_rfl)
#print axioms twice_card
end Go.Proofs.YtpjhjjkkbbmnjaaGreatDoor
