/- For every text, names, two numbers, loose or not, and name: what files say, and of a scalar, which are names, is what the document says. (The listed variables are tied to the text.) -/
import Derived.Test.YtjbeaheenfcgdaaGreatDoorCi
import Derived.Test.YtjbeaheenfcgdaaGreatDoorCk
import Derived.Test.YtjbeaheenfcgdaaGreatDoorCc
import Derived.Test.YtjbeaheenfcgdaaGreatDoorCl
import Derived.Test.YtjbeaheenfcgdaaGreatDoorTie
import Derived.Test.YtjbeaheenfcgdaaGreatDoorCards
/- viramalaw05: PropReads. -/
namespace Go.Vir
open Go Go.RowKit Go.Proofs Go.Shelf
attribute [local go_sem] Oper.semAt_some

set_option maxRecDepth 100000 in
set_option maxHeartbeats 8000000 in
theorem law_reads (A : Option Addr) (n c : Nat) (ss0 : List (List UInt8)) (s0 t0 : List UInt8) (k r : Int) (lo : Bool) (w : World) (hG : GlobP w) (hz : Strs w w.heap.size A n ss0) (hn : n ≤ 9223372036854775807) (hs : s0.length ≤ 9223372036854775807) (ht : t0.length ≤ 9223372036854775807) :
    Calls Tryz.prog 3 #[.string ⟨s0.toArray⟩, .slice A n c, .int .i64 k, .int .i64 r, .bool lo, .string ⟨t0.toArray⟩] w fun e w' => e = .returned (.bool true) ∧ Below w.heap.size w w' := by
  have H0 := Lib.hid (law05_shown w hG)
  have HG := Lib.hid hG
  have Hz := Lib.hid hz
  have hm : (min (t0.length : Int) 42).toNat = min t0.length 42 := by omega
  clear hG hz
  go_enter Tryz.func3, Tryz.ntmps3
  go_wp2_with fail
  refine H0.out.mono ?_
  rintro e w1 ⟨rfl, hb1⟩
  go_wp2_with fail
  refine (law05_cut s0 w1 hs).mono ?_
  rintro e w2 ⟨rfl, rfl⟩
  have H2 := Lib.hid (law_Few5 A n c ss0 w2 ((Hz.out.below hb1).more hb1.size) hn)
  have hsl : (s0.take 600).length ≤ 600 := by rw [List.length_take]; omega
  generalize s0.take 600 = s at *
  clear Hz hs
  go_wp2_with fail
  refine H2.out.mono ?_
  rintro e w3 ⟨⟨A3, n3, c3, rfl, hnc3, hz3⟩, hb3⟩
  obtain ⟨hf1, hf2⟩ := few_len ss0
  have hn3 : n3 ≤ 34 := by have := hz3.len; omega
  generalize fewL ss0 = ss at *
  have hbw3 := hb1.trans (hb3.mono hb1.size)
  have hss : ∀ x ∈ ss, x.length ≤ 1000000 := fun x hx => by have := hf2 x hx; omega
  have H3 := Lib.hid (prop_Read A3 n3 c3 k lo ss s w3 (HG.out.below hbw3) hz3 (by omega) hss (by omega))
  have Hz3 := Lib.hid hz3
  have Hss := Lib.hid hss
  have Hbw3 := Lib.hid hbw3
  clear hz3 hss hbw3 hb1 hb3 hf1 hf2 H0 H2
  go_wp2_with fail
  rw [show (⟨t0.toArray⟩ : ByteArray).extract 0 (min t0.length 42) = ⟨(t0.take 42).toArray⟩ by rw [text_cut, take_min]]
  generalize t0.take 42 = t at *
  clear hm ht
  refine H3.out.mono ?_
  rintro e w4 ⟨A4, n4, c4, rfl, hnc4, hr4, hb4⟩
  have hbw4 := Hbw3.out.trans (hb4.mono Hbw3.out.size)
  have hz4 := (Hz3.out.below hb4).more hb4.size
  have H4 := Lib.hid (ref_Read A3 n3 c3 k lo ss s w4 hz4 (by omega) hnc3 Hss.out (by omega))
  have Hz4 := Lib.hid hz4
  have Hbw4 := Lib.hid hbw4
  have Hr4 := Lib.hid hr4
  have hb300 : (readB s ss k lo).1.length ≤ 300 := by
    by_cases h : (readB s ss k lo).2.2 = 0
    · exact (read_map h).2.1
    · rw [read_bad h]; simp
  generalize readB s ss k lo = ra at *
  clear hz4 hbw4 hb4 hr4 H3 Hz3
  go_wp2_with fail
  refine H4.out.mono ?_
  rintro e w5 ⟨A5, n5, c5, rfl, hnc5, hr5, hb5⟩
  have hbw5 := Hbw4.out.trans (hb5.mono Hbw4.out.size)
  have hz5 := (Hz4.out.below hb5).more hb5.size
  have H5 := Lib.hid (prop_Of A3 n3 c3 ss s r w5 (HG.out.below hbw5) hz5 (by omega) Hss.out (by omega))
  have Hz5 := Lib.hid hz5
  have Hbw5 := Lib.hid hbw5
  have Hr5 := Lib.hid hr5
  have Hr45 := Lib.hid ((Hr4.out.below hb5).more hb5.size)
  clear hz5 hbw5 hb5 hr5 H4 Hz4 Hr4
  go_wp2_with fail
  refine H5.out.mono ?_
  rintro e w6 ⟨rfl, hb6⟩
  have hbw6 := Hbw5.out.trans (hb6.mono Hbw5.out.size)
  have hz6 := (Hz5.out.below hb6).more hb6.size
  have H6 := Lib.hid (ref_Of A3 n3 c3 ss s r w6 hz6 (by omega) hnc3 Hss.out (by omega))
  have Hz6 := Lib.hid hz6
  have Hbw6 := Lib.hid hbw6
  have Hr6 := Lib.hid (And.intro ((Hr45.out.below hb6).more hb6.size) ((Hr5.out.below hb6).more hb6.size))
  generalize ofB s ss r = O at *
  clear hz6 hbw6 hb6 H5 Hz5 Hr45 Hr5
  go_wp2_with fail
  refine H6.out.mono ?_
  rintro e w7 ⟨rfl, hb7⟩
  have hbw7 := Hbw6.out.trans (hb7.mono Hbw6.out.size)
  have hz7 := (Hz6.out.below hb7).more hb7.size
  have H7 := Lib.hid (prop_Value A3 n3 c3 ss t w7 (by omega) hz7)
  have Hz7 := Lib.hid hz7
  have Hbw7 := Lib.hid hbw7
  have Hr7 := Lib.hid (And.intro ((Hr6.out.1.below hb7).more hb7.size) ((Hr6.out.2.below hb7).more hb7.size))
  clear hz7 hbw7 hb7 H6 Hz6 Hr6
  go_wp2_with fail
  refine H7.out.mono ?_
  rintro e w8 ⟨rfl, hb8⟩
  have hbw8 := Hbw7.out.trans (hb8.mono Hbw7.out.size)
  have hz8 := (Hz7.out.below hb8).more hb8.size
  have H8 := Lib.hid (ref_Value A3 n3 c3 ss t w8 hz8 (by omega))
  have hr8a := (Hr7.out.1.below hb8).more hb8.size
  have hr8b := (Hr7.out.2.below hb8).more hb8.size
  have h9 := ref_SameR A4 A5 n4 c4 n5 c5 ra.1 ra.1 w8 hr8a hr8b (by have := hr8a.len; omega) (by have := hr8b.len; omega)
  rw [decide_eq_true rfl] at h9
  have H9 := Lib.hid h9
  have h10 := fun (W : World) (hW : Below w8.heap.size w8 W) => prop_Names A3 n3 c3 ss W (by omega) ((hz8.below hW).more hW.size) Hss.out
  have h11 := fun (W : World) (hW : Below w8.heap.size w8 W) => ref_Names A3 n3 c3 ss W (by omega) hnc3 ((hz8.below hW).more hW.size) Hss.out
  have H10 := Lib.hid h10
  have H11 := Lib.hid h11
  have Hbw8 := Lib.hid hbw8
  generalize (valB t ss 0).getD 0 = v at *
  generalize (valB t ss 0).isSome = vo at *
  generalize namesB ss = nm at *
  have e1 : (ra.2.1 == ra.2.1) = true := by simp
  have e2 : (ra.2.2 == ra.2.2) = true := by simp
  have e3 : (O.2 == O.2) = true := by simp
  have e4 : (v == v) = true := by simp
  have e5 : (vo == vo) = true := by simp
  have e6 : (nm == nm) = true := by simp
  clear hz8 hbw8 hb8 hr8a hr8b h9 h10 h11 H7 Hz7 Hr7 Hbw7
  go_wp2_with fail
  refine H8.out.mono ?_
  rintro e w9 ⟨rfl, hww⟩
  subst hww
  go_wp2_with fail
  refine H9.out.mono ?_
  rintro e w10 ⟨rfl, hb10⟩
  go_wp2_with fail
  refine (H10.out w10 hb10).mono ?_
  rintro e w11 ⟨rfl, hb11⟩
  have hb811 := hb10.trans (hb11.mono hb10.size)
  go_wp2_with fail
  refine (H11.out w11 hb811).mono ?_
  rintro e w12 ⟨rfl, hb12⟩
  go_wp2_with fail
  go_ret
  exact ⟨by simp, Hbw8.out.trans ((hb811.trans (hb12.mono hb811.size)).mono Hbw8.out.size)⟩
end Go.Vir


/- For every text, names, two numbers, loose or not, and name: what files say, and of a scalar, which are names, is what the document says. (The listed variables are tied to the text.) -/
namespace Go.Proofs.YtjbeaheenfcgdaaGreatDoor
open Go Go.Vir Go.RowKit Go.Proofs Go.ChangeShapes Go.WideShapes Go.ChangeAt

set_option maxHeartbeats 800000 in
set_option maxRecDepth 100000 in
theorem reads_lifted (os : Os) (started : os.Started) (H : Type) (enc : TypeId × Value → H) :
    ReturnsInHanded {} Tryz.checked os 3 .any (fun w args => (Rows.propReadsSpec.pre enc Tryz.prog Tryz.f3 [] false w args ∧ laidMetH Tryz.prog laidP w) ∧ sizedMet enc Tryz.prog Tryz.f3 (OpenSpec.ofChange Rows.propReadsSpec) false w args)
      (Rows.propReadsSpec.post enc Tryz.prog Tryz.f3 false true false false) := by
  refine returns_shaped (C := Tryz.checked) (X := fun w _ => laidMetH Tryz.prog laidP w) (fun _ _ _ hh h => h.of_heap hh) own started (by kernel_rfl) Tryz.func3
    (ChangeSpec.witness_shaped (enc := enc) (C := Tryz.checked) (os := os) (X := fun w _ => laidMetH Tryz.prog laidP w) false (worldP os) #[.string ⟨#[]⟩, .slice none 0 0, .int .i64 0, .int .i64 0, .bool false, .string ⟨#[]⟩] 8 (worldP_os os) (worldP_shaped os) (by kernel_rfl) (by kernel_rfl) (by kernel_rfl) (worldP_met os _)) ?_
  intro W base args ds gs before hval0 hW hsh hL
  have hval : ∀ (j : Nat) t v, Tryz.f3.params[j]? = some t → args[j]? = some v → Value.okWide Tryz.prog W .any base t v := hval0
  have hW' := hW
  obtain ⟨p, q, hA0, hV, rfl, _, _⟩ := hW
  have hA : DataW.TrodAll enc Tryz.prog W 0 (fun _ => true) true Tryz.f3.params.toList args.toList ds p := hA0
  rw [Tryz.params3] at hA hval
  obtain ⟨v0, v1, v2, v3, v4, v5, d0, d1, d2, d3, d4, d5, p0, p1, p2, p3, p4, p5, rfl, rfl, rfl, h0, h1, h2, h3, h4, h5⟩ := trodAll_six hA
  obtain ⟨rfl, rfl⟩ := trodVars_none hV
  have hlt : ∀ x ∈ p0 ++ p1 ++ p2 ++ p3 ++ p4 ++ p5, x.block < W.heap.size := fun x hx => by simpa using hW'.lt x (by simpa using hx)
  have hargs : ∀ (W' : World), Below W.heap.size W W' → DataW.TrodAll enc Tryz.prog W' 0 (fun b => decide (b < W.heap.size)) true #[9, 22, 3, 3, 4, 9].toList #[v0, v1, v2, v3, v4, v5].toList [d0, d1, d2, d3, d4, d5] (p0 ++ (p1 ++ (p2 ++ (p3 ++ (p4 ++ p5))))) := fun W' hn =>
    trodAll_mk6 (Below.trod laidOut (by kernel_rfl) (of_decide_eq_true (by kernel_rfl)) h0 hn (fun x hx => hlt x (by simp [hx]))) (Below.trod laidOut (by kernel_rfl) (of_decide_eq_true (by kernel_rfl)) h1 hn (fun x hx => hlt x (by simp [hx]))) (Below.trod laidOut (by kernel_rfl) (of_decide_eq_true (by kernel_rfl)) h2 hn (fun x hx => hlt x (by simp [hx]))) (Below.trod laidOut (by kernel_rfl) (of_decide_eq_true (by kernel_rfl)) h3 hn (fun x hx => hlt x (by simp [hx]))) (Below.trod laidOut (by kernel_rfl) (of_decide_eq_true (by kernel_rfl)) h4 hn (fun x hx => hlt x (by simp [hx]))) (Below.trod laidOut (by kernel_rfl) (of_decide_eq_true (by kernel_rfl)) h5 hn (fun x hx => hlt x (by simp [hx])))
  have hG := globP_of_laid hsh hL
  have key : Calls Tryz.prog 3 #[v0, v1, v2, v3, v4, v5] W fun e W' => e = .returned (.bool true) ∧ Below W.heap.size W W' := by
    obtain ⟨s, rfl, hs⟩ := open_text (hval 0 9 v0 rfl rfl) h0
    obtain ⟨B, n, c, ss, rfl, hn, hz⟩ := open_texts (hval 1 22 v1 rfl rfl) h1
    obtain ⟨k, rfl, _, _, _⟩ := open_int Tryz.underlying3 (hval 2 3 v2 rfl rfl) h2
    obtain ⟨k2, rfl, _, _, _⟩ := open_int Tryz.underlying3 (hval 3 3 v3 rfl rfl) h3
    obtain ⟨lo, rfl, _, _⟩ := open_bool Tryz.underlying4 (hval 4 4 v4 rfl rfl) h4
    obtain ⟨s2, rfl, hs2⟩ := open_text (hval 5 9 v5 rfl rfl) h5
    exact law_reads B n c ss s s2 k k2 lo W hG hz hn hs hs2
  refine key.mono fun e W' ⟨he, hn⟩ => ?_
  subst he
  exact ⟨_, rfl, _, _, _, [], _, [], hW', trodAll_mk1 (shut_bool Tryz.underlying4 true), hargs _ hn, rfl, hn.frame _, fun h => by cases h⟩

set_option maxRecDepth 100000 in
set_option maxHeartbeats 4000000 in
theorem reads_closed : joinedFacts Tryz.prog 3 Tryz.f3 Rows.propReadsSpec Rows.propReadsRow = true := by
  unfold joinedFacts
  repeat' (with_reducible apply and_mk)
  all_goals as_aux_lemma => kernel_rfl
set_option maxHeartbeats 4000000 in
theorem reads_holds : Rows.PropReadsSaid :=
  OpenClaim.holds_of_wide 3 Tryz.f3 rfl rfl rfl rfl rfl rfl rfl ⟨rfl, rfl, rfl, rfl, rfl⟩ rfl rfl rfl rfl rfl (by kernel_rfl) Tryz.func3 reads_closed
    (of_decide_eq_true (by kernel_rfl)) (by unfold Func.isWrapper; first | (rw [if_pos (by decide +kernel)]; kernel_rfl) | (rw [if_neg (by decide +kernel)]; exact ⟨rfl, rfl⟩))
    (fun os started H enc _ => reads_lifted os started H enc)

theorem reads_card : Rows.PropReadsCardSaid :=
  Claim7.holds_tied_plain_at .later [] [.data, .handle, .sentinel, .pinned] true (true, "fff8911dbad99978d22468c38c03ea7cf60215aaed4f667c212fe979b0fddc08") true
    reads_holds (fun _ h => by cases h) (by kernel_rfl) (fun _ h => by cases h) propReads_row_tie rfl ⟨rfl, rfl⟩ (by kernel_rfl) rfl
    (fun f fn hf hfn => by
      obtain rfl : f = 3 := Option.some.inj ((show Tryz.prog.funcNamed "virama/viramalaw05.PropReads" = some 3 by kernel_rfl).symm.trans hf) |>.symm
      obtain rfl : fn = Tryz.f3 := (Option.some.inj (Tryz.func3.symm.trans hfn)).symm
      exact ⟨by kernel_rfl, fun j t ht => by
        rw [Tryz.params3] at ht
        have hm : t ∈ [9, 22, 3, 3, 4, 9] := by simpa using Array.mem_of_getElem? ht
        have hall : ([9, 22, 3, 3, 4, 9].all fun u => !Tryz.prog.wantsStandIn u) = true := by kernel_rfl
        exact (show Tryz.prog.wantsStandIn t = false by simpa using List.all_eq_true.1 hall t hm)⟩)
    (by kernel_rfl)
#print axioms reads_card
end Go.Proofs.YtjbeaheenfcgdaaGreatDoor

