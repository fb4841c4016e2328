/- For every text, list of names and number: what a file says of a scalar is a name, whose value is what the file's map says, or that of 0. (The listed variables are tied to the text.) -/
import Derived.Test.YtlndejiapfaifaaGreatDoorBh
import Derived.Test.YtlndejiapfaifaaGreatDoorTie
import Derived.Test.YtlndejiapfaifaaGreatDoorCards
/- viramalaw05: PropNamed. -/
namespace Go.Vir
open Go Go.RowKit Go.Proofs Go.Shelf
attribute [local go_sem] Oper.semAt_some

set_option maxRecDepth 100000 in
set_option maxHeartbeats 4000000 in
theorem law_named (A : Option Addr) (n c : Nat) (ss0 : List (List UInt8)) (s0 : List UInt8) (r : Int) (w : World) (hG : GlobP w) (hz : Strs w w.heap.size A n ss0) (hn : n ≤ 9223372036854775807) (hs : s0.length ≤ 9223372036854775807) :
    Calls Tryz.prog 6 #[.string ⟨s0.toArray⟩, .slice A n c, .int .i64 r] w fun e w' => e = .returned (.bool true) ∧ Below w.heap.size w w' := by
  have H0 := Lib.hid (law05_shown w hG)
  have HG := Lib.hid hG
  have Hz := Lib.hid hz
  clear hG hz
  go_enter Tryz.func6, Tryz.ntmps6
  go_wp2_with fail
  refine H0.out.mono ?_
  rintro e w1 ⟨rfl, hb1⟩
  go_wp2_with fail
  refine (law05_cut s0 w1 hs).mono ?_
  rintro e w2 ⟨rfl, rfl⟩
  have H2 := Lib.hid (law_Few5 A n c ss0 w2 ((Hz.out.below hb1).more hb1.size) hn)
  have hsl : (s0.take 600).length ≤ 600 := by rw [List.length_take]; omega
  generalize s0.take 600 = s at *
  clear Hz hs
  go_wp2_with fail
  refine H2.out.mono ?_
  rintro e w3 ⟨⟨A3, n3, c3, rfl, hnc3, hz3⟩, hb3⟩
  obtain ⟨hf1, hf2⟩ := few_len ss0
  have hn3 : n3 ≤ 34 := by have := hz3.len; omega
  generalize fewL ss0 = ss at *
  have hbw3 := hb1.trans (hb3.mono hb1.size)
  have hss : ∀ x ∈ ss, x.length ≤ 1000000 := fun x hx => by have := hf2 x hx; omega
  have H3 := Lib.hid (prop_Of A3 n3 c3 ss s r w3 (HG.out.below hbw3) hz3 (by omega) hss (by omega))
  have Hz3 := Lib.hid hz3
  have Hss := Lib.hid hss
  have Hbw3 := Lib.hid hbw3
  clear hz3 hss hbw3 hb1 hb3 hf1 hf2 H0 H2
  go_wp2_with fail
  refine H3.out.mono ?_
  rintro e w4 ⟨rfl, hb4⟩
  have hbw4 := Hbw3.out.trans (hb4.mono Hbw3.out.size)
  have hz4 := (Hz3.out.below hb4).more hb4.size
  have H4 := Lib.hid (prop_Read A3 n3 c3 0 false ss s w4 (HG.out.below hbw4) hz4 (by omega) Hss.out (by omega))
  have Hbw4 := Lib.hid hbw4
  have Hz4 := Lib.hid hz4
  clear hbw4 hz4 hb4 H3 Hz3 Hss
  by_cases h0 : (readB s ss 0 false).2.2 = 0
  · obtain ⟨hvb, hval⟩ := of_named (r := r) h0
    have hlen := (read_map h0).2.1
    have ho : (ofB s ss r).2 = 0 := by unfold ofB; rw [if_pos h0]
    generalize ofB s ss r = O at *
    obtain ⟨t, oc⟩ := O
    simp only at ho hval
    subst ho
    obtain ⟨v, hv⟩ : ∃ v, v = (findR (readB s ss 0 false).1 r).getD 0 := ⟨_, rfl⟩
    rw [← hv] at hval hvb
    have hfd := fun (W : World) (A' : Option Addr) (n' c' : Nat) (hx : Rgs W W.heap.size A' n' (readB s ss 0 false).1) (hn' : n' ≤ 1000000) => span_Find A' n' c' (readB s ss 0 false).1 r W hx hn'
    rw [← hv] at hfd
    generalize (findR (readB s ss 0 false).1 r).isSome = b at *
    generalize readB s ss 0 false = ra at *
    have Hfd := Lib.hid hfd
    have Hval := Lib.hid hval
    have e0 : (ra.2.2 != 0) = false := by simp [h0]
    have e1 : (ra.2.2 == 0) = true := by simp [h0]
    clear hfd hval hv h0 hvb
    go_wp2_with fail
    refine H4.out.mono ?_
    rintro e w5 ⟨A5, n5, c5, rfl, hnc5, hr5, hb5⟩
    have hl5 := hr5.len
    have hbw5 := Hbw4.out.trans (hb5.mono Hbw4.out.size)
    have hz5 := (Hz4.out.below hb5).more hb5.size
    have H5 := Lib.hid (Hfd.out w5 A5 n5 c5 hr5 (by omega))
    have Hz5 := Lib.hid hz5
    have Hbw5 := Lib.hid hbw5
    clear hr5 hb5 hbw5 hz5 hl5 H4
    go_wp2_with fail
    refine H5.out.mono ?_
    rintro e w6 ⟨rfl, hb6⟩
    have hbw6 := Hbw5.out.trans (hb6.mono Hbw5.out.size)
    have h6 := prop_Value A3 n3 c3 ss t w6 (by omega) ((Hz5.out.below hb6).more hb6.size)
    rw [Hval.out] at h6
    have H6 := Lib.hid h6
    clear hb6 h6
    go_wp2_with fail
    refine H6.out.mono ?_
    rintro e w7 ⟨rfl, hb7⟩
    have e3 : (v == v) = true := by simp
    simp only [Option.getD_some, Option.isSome_some]
    go_wp2_with fail
    go_ret
    exact ⟨rfl, hbw6.trans (hb7.mono hbw6.size)⟩
  · have ho : ofB s ss r = ([], (readB s ss 0 false).2.2) := by unfold ofB; rw [if_neg h0]
    rw [ho]
    generalize readB s ss 0 false = ra at *
    have e0 : (ra.2.2 != 0) = true := by simpa using h0
    have e1 : (ra.2.2 == ra.2.2) = true := by simp
    clear ho h0
    go_wp2_with fail
    refine H4.out.mono ?_
    rintro e w5 ⟨A5, n5, c5, rfl, hnc5, hr5, hb5⟩
    clear hr5
    go_wp2_with fail
    go_ret
    exact ⟨rfl, Hbw4.out.trans (hb5.mono Hbw4.out.size)⟩
end Go.Vir


/- For every text, list of names and number: what a file says of a scalar is a name, whose value is what the file's map says, or that of 0. (The listed variables are tied to the text.) -/
namespace Go.Proofs.YtlndejiapfaifaaGreatDoor
open Go Go.Vir Go.RowKit Go.Proofs Go.ChangeShapes Go.WideShapes Go.ChangeAt

set_option maxHeartbeats 800000 in
set_option maxRecDepth 100000 in
theorem named_lifted (os : Os) (started : os.Started) (H : Type) (enc : TypeId × Value → H) :
    ReturnsInHanded {} Tryz.checked os 6 .any (fun w args => (Rows.propNamedSpec.pre enc Tryz.prog Tryz.f6 [] false w args ∧ laidMetH Tryz.prog laidP w) ∧ sizedMet enc Tryz.prog Tryz.f6 (OpenSpec.ofChange Rows.propNamedSpec) false w args)
      (Rows.propNamedSpec.post enc Tryz.prog Tryz.f6 false true false false) := by
  refine returns_shaped (C := Tryz.checked) (X := fun w _ => laidMetH Tryz.prog laidP w) (fun _ _ _ hh h => h.of_heap hh) own started (by kernel_rfl) Tryz.func6
    (ChangeSpec.witness_shaped (enc := enc) (C := Tryz.checked) (os := os) (X := fun w _ => laidMetH Tryz.prog laidP w) false (worldP os) #[.string ⟨#[]⟩, .slice none 0 0, .int .i64 0] 8 (worldP_os os) (worldP_shaped os) (by kernel_rfl) (by kernel_rfl) (by kernel_rfl) (worldP_met os _)) ?_
  intro W base args ds gs before hval0 hW hsh hL
  have hval : ∀ (j : Nat) t v, Tryz.f6.params[j]? = some t → args[j]? = some v → Value.okWide Tryz.prog W .any base t v := hval0
  have hW' := hW
  obtain ⟨p, q, hA0, hV, rfl, _, _⟩ := hW
  have hA : DataW.TrodAll enc Tryz.prog W 0 (fun _ => true) true Tryz.f6.params.toList args.toList ds p := hA0
  rw [Tryz.params6] at hA hval
  obtain ⟨v0, v1, v2, d0, d1, d2, p0, p1, p2, rfl, rfl, rfl, h0, h1, h2⟩ := trodAll_three hA
  obtain ⟨rfl, rfl⟩ := trodVars_none hV
  have hlt : ∀ x ∈ p0 ++ p1 ++ p2, x.block < W.heap.size := fun x hx => by simpa using hW'.lt x (by simpa using hx)
  have hargs : ∀ (W' : World), Below W.heap.size W W' → DataW.TrodAll enc Tryz.prog W' 0 (fun b => decide (b < W.heap.size)) true #[9, 22, 3].toList #[v0, v1, v2].toList [d0, d1, d2] (p0 ++ (p1 ++ p2)) := fun W' hn =>
    trodAll_mk3 (Below.trod laidOut (by kernel_rfl) (of_decide_eq_true (by kernel_rfl)) h0 hn (fun x hx => hlt x (by simp [hx]))) (Below.trod laidOut (by kernel_rfl) (of_decide_eq_true (by kernel_rfl)) h1 hn (fun x hx => hlt x (by simp [hx]))) (Below.trod laidOut (by kernel_rfl) (of_decide_eq_true (by kernel_rfl)) h2 hn (fun x hx => hlt x (by simp [hx])))
  have hG := globP_of_laid hsh hL
  have key : Calls Tryz.prog 6 #[v0, v1, v2] W fun e W' => e = .returned (.bool true) ∧ Below W.heap.size W W' := by
    obtain ⟨s, rfl, hs⟩ := open_text (hval 0 9 v0 rfl rfl) h0
    obtain ⟨B, n, c, ss, rfl, hn, hz⟩ := open_texts (hval 1 22 v1 rfl rfl) h1
    obtain ⟨k, rfl, _, _, _⟩ := open_int Tryz.underlying3 (hval 2 3 v2 rfl rfl) h2
    exact law_named B n c ss s k W hG hz hn hs
  refine key.mono fun e W' ⟨he, hn⟩ => ?_
  subst he
  exact ⟨_, rfl, _, _, _, [], _, [], hW', trodAll_mk1 (shut_bool Tryz.underlying4 true), hargs _ hn, rfl, hn.frame _, fun h => by cases h⟩

set_option maxRecDepth 100000 in
set_option maxHeartbeats 4000000 in
theorem named_closed : joinedFacts Tryz.prog 6 Tryz.f6 Rows.propNamedSpec Rows.propNamedRow = true := by
  unfold joinedFacts
  repeat' (with_reducible apply and_mk)
  all_goals as_aux_lemma => kernel_rfl
set_option maxHeartbeats 4000000 in
theorem named_holds : Rows.PropNamedSaid :=
  OpenClaim.holds_of_wide 6 Tryz.f6 rfl rfl rfl rfl rfl rfl rfl ⟨rfl, rfl, rfl, rfl, rfl⟩ rfl rfl rfl rfl rfl (by kernel_rfl) Tryz.func6 named_closed
    (of_decide_eq_true (by kernel_rfl)) (by unfold Func.isWrapper; first | (rw [if_pos (by decide +kernel)]; kernel_rfl) | (rw [if_neg (by decide +kernel)]; exact ⟨rfl, rfl⟩))
    (fun os started H enc _ => named_lifted os started H enc)

theorem named_card : Rows.PropNamedCardSaid :=
  Claim7.holds_tied_plain_at .later [] [.data, .handle, .sentinel, .pinned] true (true, "4537c13a6f0fe1c7c3b14bf1be597e230857b056e25b20dc63c0762c51c1d600") true
    named_holds (fun _ h => by cases h) (by kernel_rfl) (fun _ h => by cases h) propNamed_row_tie rfl ⟨rfl, rfl⟩ (by kernel_rfl) rfl
    (fun f fn hf hfn => by
      obtain rfl : f = 6 := Option.some.inj ((show Tryz.prog.funcNamed "virama/viramalaw05.PropNamed" = some 6 by kernel_rfl).symm.trans hf) |>.symm
      obtain rfl : fn = Tryz.f6 := (Option.some.inj (Tryz.func6.symm.trans hfn)).symm
      exact ⟨by kernel_rfl, fun j t ht => by
        rw [Tryz.params6] at ht
        have hm : t ∈ [9, 22, 3] := by simpa using Array.mem_of_getElem? ht
        have hall : ([9, 22, 3].all fun u => !Tryz.prog.wantsStandIn u) = true := by kernel_rfl
        exact (show Tryz.prog.wantsStandIn t = false by simpa using List.all_eq_true.1 hall t hm)⟩)
    (by kernel_rfl)
#print axioms named_card
end Go.Proofs.YtlndejiapfaifaaGreatDoor

