/- For every two texts, names and number: a file below another one says what both say, if they do not say something of one number. (The listed variables are tied to the text.) -/
import Derived.Test.YtlndejiapfaifaaGreatDoorBh
import Derived.Test.YtlndejiapfaifaaGreatDoorTie
import Derived.Test.YtlndejiapfaifaaGreatDoorCards
/- viramalaw05: PropTwo. -/
namespace Go.Vir
open Go Go.RowKit Go.Proofs Go.Shelf
attribute [local go_sem] Oper.semAt_some

theorem cut_min (s : List UInt8) (k : Nat) : (⟨s.toArray⟩ : ByteArray).extract 0 (min s.length k) = ⟨(s.take k).toArray⟩ := by rw [text_cut, take_min]

set_option maxRecDepth 100000 in
set_option maxHeartbeats 8000000 in
theorem law_two (A : Option Addr) (n c : Nat) (ss0 : List (List UInt8)) (s0 s1 : List UInt8) (r : Int) (w : World) (hG : GlobP w) (hz : Strs w w.heap.size A n ss0) (hn : n ≤ 9223372036854775807) (hs : s0.length ≤ 9223372036854775807) (hs1 : s1.length ≤ 9223372036854775807) :
    Calls Tryz.prog 3 #[.string ⟨s0.toArray⟩, .string ⟨s1.toArray⟩, .slice A n c, .int .i64 r] w fun e w' => e = .returned (.bool true) ∧ Below w.heap.size w w' := by
  have H0 := Lib.hid (law05_shown w hG)
  have HG := Lib.hid hG
  have Hz := Lib.hid hz
  have hm0 : (min (s0.length : Int) 300).toNat = min s0.length 300 := by omega
  have hm1 : (min (s1.length : Int) 300).toNat = min s1.length 300 := by omega
  have hc0 := cut_min s0 300
  have hc1 := cut_min s1 300
  clear hG hz
  go_enter Tryz.func3, Tryz.ntmps3
  go_wp2_with fail
  refine H0.out.mono ?_
  rintro e w1 ⟨rfl, hb1⟩
  have H2 := Lib.hid (law_Few5 A n c ss0 w1 ((Hz.out.below hb1).more hb1.size) hn)
  have ha : (s0.take 300).length ≤ 300 := by rw [List.length_take]; omega
  have hb : (s1.take 300).length ≤ 300 := by rw [List.length_take]; omega
  clear Hz
  go_wp2_with fail
  refine H2.out.mono ?_
  rintro e w3 ⟨⟨A3, n3, c3, rfl, hnc3, hz3⟩, hb3⟩
  obtain ⟨hf1, hf2⟩ := few_len ss0
  have hn3 : n3 ≤ 34 := by have := hz3.len; omega
  generalize fewL ss0 = ss at *
  clear hc0 hc1 hm0 hm1 H0 H2
  generalize s0.take 300 = a at *
  generalize s1.take 300 = b at *
  have hbw3 := hb1.trans (hb3.mono hb1.size)
  have hss : ∀ x ∈ ss, x.length ≤ 1000000 := fun x hx => by have := hf2 x hx; omega
  have H3 := Lib.hid (prop_Read A3 n3 c3 0 true ss a w3 (HG.out.below hbw3) hz3 (by omega) hss (by omega))
  have Htwo := Lib.hid (read_two a b ss ha hb)
  have hcat : ((⟨a.toArray⟩ : ByteArray) ++ ⟨#[10]⟩) ++ ⟨b.toArray⟩ = ⟨(a ++ 10 :: b).toArray⟩ := by
    apply ByteArray.ext
    simp
  have Hcat := Lib.hid hcat
  have hcl : (a ++ 10 :: b).length ≤ 601 := by simp; omega
  have hov1 : ¬ (9223372036854775807 < a.length + 1) := by omega
  have hov2 : ¬ (9223372036854775807 < a.length + 1 + b.length) := by omega
  have hva := fun h => (@read_map a ss 0 true h).2.2.1
  have hvb := fun h => (@read_map b ss 0 true h).2.2.1
  have hla : (readB a ss 0 true).1.length ≤ 300 := by
    by_cases h : (readB a ss 0 true).2.2 = 0
    · exact (read_map h).2.1
    · rw [read_bad h]; simp
  have hlb : (readB b ss 0 true).1.length ≤ 300 := by
    by_cases h : (readB b ss 0 true).2.2 = 0
    · exact (read_map h).2.1
    · rw [read_bad h]; simp
  have hlc : (readB (a ++ 10 :: b) ss 0 true).1.length ≤ 300 := by
    by_cases h : (readB (a ++ 10 :: b) ss 0 true).2.2 = 0
    · exact (read_map h).2.1
    · rw [read_bad h]; simp
  have Hva := Lib.hid hva
  have Hvb := Lib.hid hvb
  have Hz3 := Lib.hid hz3
  have Hss := Lib.hid hss
  have Hbw3 := Lib.hid hbw3
  clear hz3 hss hbw3 hb1 hb3 hf1 hf2 hva hvb hcat
  go_wp2_with fail
  refine H3.out.mono ?_
  rintro e w4 ⟨A4, n4, c4, rfl, hnc4, hr4, hb4⟩
  have hbw4 := Hbw3.out.trans (hb4.mono Hbw3.out.size)
  have hz4 := (Hz3.out.below hb4).more hb4.size
  have H4 := Lib.hid (prop_Read A3 n3 c3 0 true ss b w4 (HG.out.below hbw4) hz4 (by omega) Hss.out (by omega))
  have Hr4 := Lib.hid hr4
  have Hz4 := Lib.hid hz4
  have Hbw4 := Lib.hid hbw4
  clear hr4 hz4 hbw4 hb4 H3 Hz3
  go_wp2_with fail
  refine H4.out.mono ?_
  rintro e w5 ⟨A5, n5, c5, rfl, hnc5, hr5, hb5⟩
  have hbw5 := Hbw4.out.trans (hb5.mono Hbw4.out.size)
  have hz5 := (Hz4.out.below hb5).more hb5.size
  have h5 := prop_Read A3 n3 c3 0 true ss (a ++ 10 :: b) w5 (HG.out.below hbw5) hz5 (by omega) Hss.out (by omega)
  rw [← Hcat.out] at h5
  have H5 := Lib.hid h5
  have Hr4b := Lib.hid ((Hr4.out.below hb5).more hb5.size)
  have Hr5 := Lib.hid hr5
  have Hbw5 := Lib.hid hbw5
  clear hr5 hz5 hbw5 hb5 H4 Hz4 Hr4 h5
  go_wp2_with fail
  refine H5.out.mono ?_
  rintro e w6 ⟨A6, n6, c6, rfl, hnc6, hr6, hb6⟩
  have hbw6 := Hbw5.out.trans (hb6.mono Hbw5.out.size)
  have hr46 := (Hr4b.out.below hb6).more hb6.size
  have hr56 := (Hr5.out.below hb6).more hb6.size
  have hl4 := hr46.len
  have hl5 := hr56.len
  have hl6 := hr6.len
  generalize readB (a ++ 10 :: b) ss 0 true = rc at *
  generalize readB a ss 0 true = ra at *
  generalize readB b ss 0 true = rb at *
  have Hr46 := Lib.hid hr46
  have Hr56 := Lib.hid hr56
  have Hr6 := Lib.hid hr6
  have Hbw6 := Lib.hid hbw6
  have htwo := Htwo.out
  clear hr46 hr56 hr6 hbw6 hb6 H5 Hr4b Hr5 Htwo Hcat hcl hov1 hov2
  by_cases hok : ra.2.2 = 0 ∧ rb.2.2 = 0
  rotate_left
  · rw [if_neg hok] at htwo
    have e3 : (rc.2.2 != 0) = true := by simpa using htwo
    rcases (by omega : ra.2.2 ≠ 0 ∨ (ra.2.2 = 0 ∧ rb.2.2 ≠ 0)) with h | ⟨h, h'⟩
    · have e1 : (ra.2.2 != 0) = true := by simpa using h
      clear hok htwo h
      go_wp2_with fail
      go_ret
      exact ⟨rfl, Hbw6.out⟩
    · have e1 : (ra.2.2 != 0) = false := by simp [h]
      have e2 : (rb.2.2 != 0) = true := by simpa using h'
      clear hok htwo h h'
      go_wp2_with fail
      go_ret
      exact ⟨rfl, Hbw6.out⟩
  · rw [if_pos hok] at htwo
    have e1 : (ra.2.2 != 0) = false := by simp [hok.1]
    have e2 : (rb.2.2 != 0) = false := by simp [hok.2]
    have hva := Hva.out hok.1
    have hvb := Hvb.out hok.2
    have hbnd : ∀ v, findR ra.1 r = some v → 0 ≤ v := fun v h => by obtain ⟨x, hx, _, _, rfl⟩ := find_mem h; exact (hva x hx).1
    have hbnd2 : ∀ v, findR rb.1 r = some v → 0 ≤ v := fun v h => by obtain ⟨x, hx, _, _, rfl⟩ := find_mem h; exact (hvb x hx).1
    have hx1 := fun (W : World) (hW : Below w6.heap.size w6 W) => span_Find A4 n4 c4 ra.1 r W ((Hr46.out.below hW).more hW.size) (by omega)
    have hx2 := fun (W : World) (hW : Below w6.heap.size w6 W) => span_Find A5 n5 c5 rb.1 r W ((Hr56.out.below hW).more hW.size) (by omega)
    have hx3 := fun (W : World) (hW : Below w6.heap.size w6 W) => span_Find A6 n6 c6 rc.1 r W ((Hr6.out.below hW).more hW.size) (by omega)
    have htw2 := fun h => htwo.2 h r
    have htw1 := htwo.1
    generalize findR ra.1 r = fa at *
    generalize findR rb.1 r = fb at *
    generalize findR rc.1 r = fc at *
    have Hx1 := Lib.hid hx1
    have Hx2 := Lib.hid hx2
    have Hx3 := Lib.hid hx3
    have Hb1 := Lib.hid hbnd
    have Hb2 := Lib.hid hbnd2
    have Htw2 := Lib.hid htw2
    have Htw1 := Lib.hid htw1
    clear hok htwo hva hvb hbnd hbnd2 hx1 hx2 hx3 htw2 htw1 Hva Hvb
    go_wp2_with fail
    refine (Hx1.out w6 (Below.refl _ _)).mono ?_
    rintro e w7 ⟨rfl, hb7⟩
    go_wp2_with fail
    refine (Hx2.out w7 hb7).mono ?_
    rintro e w8 ⟨rfl, hb8⟩
    have hb68 := hb7.trans (hb8.mono hb7.size)
    by_cases h0 : rc.2.2 = 0
    · have e3 : (rc.2.2 != 0) = false := by simp [h0]
      obtain ⟨hnb, hor⟩ := Htw2.out h0
      have H9 := Lib.hid (Hx3.out w8 hb68)
      rcases fa with _ | va
      · rcases fb with _ | vb
        · obtain rfl : fc = none := by simpa using hor
          have m1 : max (0 : Int) 0 = 0 := by omega
          clear h0 hnb hor
          simp only [Option.getD_none, Option.isSome_none] at *
          go_wp2_with fail
          refine H9.out.mono ?_
          rintro e w9 ⟨rfl, hb9⟩
          go_wp2_with fail
          go_ret
          exact ⟨rfl, Hbw6.out.trans ((hb68.trans (hb9.mono hb68.size)).mono Hbw6.out.size)⟩
        · obtain rfl : fc = some vb := by simpa using hor
          have hv0 := Hb2.out vb rfl
          have m1 : max (0 : Int) vb = vb := by omega
          have e5 : (vb == vb) = true := by simp
          clear h0 hnb hor hv0
          simp only [Option.getD_none, Option.isSome_none, Option.getD_some, Option.isSome_some] at *
          go_wp2_with fail
          refine H9.out.mono ?_
          rintro e w9 ⟨rfl, hb9⟩
          go_wp2_with fail
          go_ret
          exact ⟨rfl, Hbw6.out.trans ((hb68.trans (hb9.mono hb68.size)).mono Hbw6.out.size)⟩
      · rcases fb with _ | vb
        · obtain rfl : fc = some va := by simpa using hor
          have hv0 := Hb1.out va rfl
          have m1 : max va (0 : Int) = va := by omega
          have e5 : (va == va) = true := by simp
          clear h0 hnb hor hv0
          simp only [Option.getD_none, Option.isSome_none, Option.getD_some, Option.isSome_some] at *
          go_wp2_with fail
          refine H9.out.mono ?_
          rintro e w9 ⟨rfl, hb9⟩
          go_wp2_with fail
          go_ret
          exact ⟨rfl, Hbw6.out.trans ((hb68.trans (hb9.mono hb68.size)).mono Hbw6.out.size)⟩
        · exact absurd ⟨rfl, rfl⟩ hnb
    · have e3 : (rc.2.2 != 0) = true := by simpa using h0
      have e4 : (rc.2.2 == 30) = true := by simpa using Htw1.out h0
      clear h0
      go_wp2_with fail
      go_ret
      exact ⟨rfl, Hbw6.out.trans (hb68.mono Hbw6.out.size)⟩
end Go.Vir


/- For every two texts, names and number: a file below another one says what both say, if they do not say something of one number. (The listed variables are tied to the text.) -/
namespace Go.Proofs.YtlndejiapfaifaaGreatDoor
open Go Go.Vir Go.RowKit Go.Proofs Go.ChangeShapes Go.WideShapes Go.ChangeAt

set_option maxHeartbeats 800000 in
set_option maxRecDepth 100000 in
theorem two_lifted (os : Os) (started : os.Started) (H : Type) (enc : TypeId × Value → H) :
    ReturnsInHanded {} Tryz.checked os 3 .any (fun w args => (Rows.propTwoSpec.pre enc Tryz.prog Tryz.f3 [] false w args ∧ laidMetH Tryz.prog laidP w) ∧ sizedMet enc Tryz.prog Tryz.f3 (OpenSpec.ofChange Rows.propTwoSpec) false w args)
      (Rows.propTwoSpec.post enc Tryz.prog Tryz.f3 false true false false) := by
  refine returns_shaped (C := Tryz.checked) (X := fun w _ => laidMetH Tryz.prog laidP w) (fun _ _ _ hh h => h.of_heap hh) own started (by kernel_rfl) Tryz.func3
    (ChangeSpec.witness_shaped (enc := enc) (C := Tryz.checked) (os := os) (X := fun w _ => laidMetH Tryz.prog laidP w) false (worldP os) #[.string ⟨#[]⟩, .string ⟨#[]⟩, .slice none 0 0, .int .i64 0] 8 (worldP_os os) (worldP_shaped os) (by kernel_rfl) (by kernel_rfl) (by kernel_rfl) (worldP_met os _)) ?_
  intro W base args ds gs before hval0 hW hsh hL
  have hval : ∀ (j : Nat) t v, Tryz.f3.params[j]? = some t → args[j]? = some v → Value.okWide Tryz.prog W .any base t v := hval0
  have hW' := hW
  obtain ⟨p, q, hA0, hV, rfl, _, _⟩ := hW
  have hA : DataW.TrodAll enc Tryz.prog W 0 (fun _ => true) true Tryz.f3.params.toList args.toList ds p := hA0
  rw [Tryz.params3] at hA hval
  obtain ⟨v0, v1, v2, v3, d0, d1, d2, d3, p0, p1, p2, p3, rfl, rfl, rfl, h0, h1, h2, h3⟩ := trodAll_four hA
  obtain ⟨rfl, rfl⟩ := trodVars_none hV
  have hlt : ∀ x ∈ p0 ++ p1 ++ p2 ++ p3, x.block < W.heap.size := fun x hx => by simpa using hW'.lt x (by simpa using hx)
  have hargs : ∀ (W' : World), Below W.heap.size W W' → DataW.TrodAll enc Tryz.prog W' 0 (fun b => decide (b < W.heap.size)) true #[9, 9, 22, 3].toList #[v0, v1, v2, v3].toList [d0, d1, d2, d3] (p0 ++ (p1 ++ (p2 ++ p3))) := fun W' hn =>
    trodAll_mk4 (Below.trod laidOut (by kernel_rfl) (of_decide_eq_true (by kernel_rfl)) h0 hn (fun x hx => hlt x (by simp [hx]))) (Below.trod laidOut (by kernel_rfl) (of_decide_eq_true (by kernel_rfl)) h1 hn (fun x hx => hlt x (by simp [hx]))) (Below.trod laidOut (by kernel_rfl) (of_decide_eq_true (by kernel_rfl)) h2 hn (fun x hx => hlt x (by simp [hx]))) (Below.trod laidOut (by kernel_rfl) (of_decide_eq_true (by kernel_rfl)) h3 hn (fun x hx => hlt x (by simp [hx])))
  have hG := globP_of_laid hsh hL
  have key : Calls Tryz.prog 3 #[v0, v1, v2, v3] W fun e W' => e = .returned (.bool true) ∧ Below W.heap.size W W' := by
    obtain ⟨s, rfl, hs⟩ := open_text (hval 0 9 v0 rfl rfl) h0
    obtain ⟨s2, rfl, hs2⟩ := open_text (hval 1 9 v1 rfl rfl) h1
    obtain ⟨B, n, c, ss, rfl, hn, hz⟩ := open_texts (hval 2 22 v2 rfl rfl) h2
    obtain ⟨k, rfl, _, _, _⟩ := open_int Tryz.underlying3 (hval 3 3 v3 rfl rfl) h3
    exact law_two B n c ss s s2 k W hG hz hn hs hs2
  refine key.mono fun e W' ⟨he, hn⟩ => ?_
  subst he
  exact ⟨_, rfl, _, _, _, [], _, [], hW', trodAll_mk1 (shut_bool Tryz.underlying4 true), hargs _ hn, rfl, hn.frame _, fun h => by cases h⟩

set_option maxRecDepth 100000 in
set_option maxHeartbeats 4000000 in
theorem two_closed : joinedFacts Tryz.prog 3 Tryz.f3 Rows.propTwoSpec Rows.propTwoRow = true := by
  unfold joinedFacts
  repeat' (with_reducible apply and_mk)
  all_goals as_aux_lemma => kernel_rfl
set_option maxHeartbeats 4000000 in
theorem two_holds : Rows.PropTwoSaid :=
  OpenClaim.holds_of_wide 3 Tryz.f3 rfl rfl rfl rfl rfl rfl rfl ⟨rfl, rfl, rfl, rfl, rfl⟩ rfl rfl rfl rfl rfl (by kernel_rfl) Tryz.func3 two_closed
    (of_decide_eq_true (by kernel_rfl)) (by unfold Func.isWrapper; first | (rw [if_pos (by decide +kernel)]; kernel_rfl) | (rw [if_neg (by decide +kernel)]; exact ⟨rfl, rfl⟩))
    (fun os started H enc _ => two_lifted os started H enc)

theorem two_card : Rows.PropTwoCardSaid :=
  Claim7.holds_tied_plain_at .later [] [.data, .handle, .sentinel, .pinned] true (true, "4537c13a6f0fe1c7c3b14bf1be597e230857b056e25b20dc63c0762c51c1d600") true
    two_holds (fun _ h => by cases h) (by kernel_rfl) (fun _ h => by cases h) propTwo_row_tie rfl ⟨rfl, rfl⟩ (by kernel_rfl) rfl
    (fun f fn hf hfn => by
      obtain rfl : f = 3 := Option.some.inj ((show Tryz.prog.funcNamed "virama/viramalaw05.PropTwo" = some 3 by kernel_rfl).symm.trans hf) |>.symm
      obtain rfl : fn = Tryz.f3 := (Option.some.inj (Tryz.func3.symm.trans hfn)).symm
      exact ⟨by kernel_rfl, fun j t ht => by
        rw [Tryz.params3] at ht
        have hm : t ∈ [9, 9, 22, 3] := by simpa using Array.mem_of_getElem? ht
        have hall : ([9, 9, 22, 3].all fun u => !Tryz.prog.wantsStandIn u) = true := by kernel_rfl
        exact (show Tryz.prog.wantsStandIn t = false by simpa using List.all_eq_true.1 hall t hm)⟩)
    (by kernel_rfl)
#print axioms two_card
end Go.Proofs.YtlndejiapfaifaaGreatDoor

