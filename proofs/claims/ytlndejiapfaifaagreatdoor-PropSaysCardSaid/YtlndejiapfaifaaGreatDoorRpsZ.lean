/- For every text, names, number, loose or not: what a file says of a number its records say. (The listed variables are tied to the text.) -/
import Derived.Test.YtlndejiapfaifaaGreatDoorBh
import Derived.Test.YtlndejiapfaifaaGreatDoorTie
import Derived.Test.YtlndejiapfaifaaGreatDoorCards
/- viramalaw05: PropSays. -/
namespace Go.Vir
open Go Go.RowKit Go.Proofs Go.Shelf
attribute [local go_sem] Oper.semAt_some

/-- Does a record say something of a number? -/
def cndS (ss : List (List UInt8)) (r : Int) (x : RecV) : Bool := (saysB ss 0 x).isSome && decide (x.f ≤ r) && decide (r ≤ x.t)
theorem says_any {ss : List (List UInt8)} {r : Int} {recs : List RecV} {o : Option Int} (h : ∀ v, o = some v ↔ ∃ x ∈ recs, saysB ss 0 x = some v ∧ x.f ≤ r ∧ r ≤ x.t) : recs.any (cndS ss r) = o.isSome := by
  rw [Bool.eq_iff_iff, List.any_eq_true]
  constructor
  · rintro ⟨x, hx, hc⟩
    simp only [cndS, Bool.and_eq_true, decide_eq_true_eq] at hc
    obtain ⟨v, hv⟩ := Option.isSome_iff_exists.1 hc.1.1
    rw [(h v).2 ⟨x, hx, hv, hc.1.2, hc.2⟩]
    rfl
  · intro ho
    obtain ⟨v, hv⟩ := Option.isSome_iff_exists.1 ho
    obtain ⟨x, hx, h1, h2, h3⟩ := (h v).1 hv
    exact ⟨x, hx, by simp [cndS, h1, h2, h3]⟩
theorem any_snoc (recs : List RecV) (p : RecV → Bool) (k : Nat) (h : k < recs.length) : (recs.take (k + 1)).any p = ((recs.take k).any p || p recs[k]) := by
  rw [List.take_succ_eq_append_getElem h, List.any_append]
  simp

set_option maxRecDepth 100000 in
set_option maxHeartbeats 8000000 in
theorem law_says (A : Option Addr) (n c : Nat) (ss0 : List (List UInt8)) (s0 : List UInt8) (r : Int) (lo : Bool) (w : World) (hG : GlobP w) (hz : Strs w w.heap.size A n ss0) (hn : n ≤ 9223372036854775807) (hs : s0.length ≤ 9223372036854775807) :
    Calls Tryz.prog 5 #[.string ⟨s0.toArray⟩, .slice A n c, .int .i64 r, .bool lo] w fun e w' => e = .returned (.bool true) ∧ Below w.heap.size w w' := by
  have H0 := Lib.hid (law05_shown w hG)
  have HG := Lib.hid hG
  have Hz := Lib.hid hz
  clear hG hz
  go_enter Tryz.func5, Tryz.ntmps5
  go_wp2_with fail
  refine H0.out.mono ?_
  rintro e w1 ⟨rfl, hb1⟩
  go_wp2_with fail
  refine (law05_cut s0 w1 hs).mono ?_
  rintro e w2 ⟨rfl, rfl⟩
  have H2 := Lib.hid (law_Few5 A n c ss0 w2 ((Hz.out.below hb1).more hb1.size) hn)
  have hsl : (s0.take 600).length ≤ 600 := by rw [List.length_take]; omega
  generalize s0.take 600 = s at *
  clear Hz hs
  go_wp2_with fail
  refine H2.out.mono ?_
  rintro e w3 ⟨⟨A3, n3, c3, rfl, hnc3, hz3⟩, hb3⟩
  obtain ⟨hf1, hf2⟩ := few_len ss0
  have hn3 : n3 ≤ 34 := by have := hz3.len; omega
  generalize fewL ss0 = ss at *
  have hbw3 := hb1.trans (hb3.mono hb1.size)
  have hss : ∀ x ∈ ss, x.length ≤ 1000000 := fun x hx => by have := hf2 x hx; omega
  have H3 := Lib.hid (prop_Read A3 n3 c3 0 lo ss s w3 (HG.out.below hbw3) hz3 (by omega) hss (by omega))
  have Hz3 := Lib.hid hz3
  have Hbw3 := Lib.hid hbw3
  have H8 := Lib.hid (fun (W : World) => ref_Parse3 s W (by omega))
  have Hmap := Lib.hid (@read_map s ss 0 lo)
  have Hbad := Lib.hid (@read_bad s ss 0 lo)
  have Hfile := Lib.hid (@read_ok s ss 0 lo)
  have Hrec := Lib.hid (fileN_ok s)
  clear hz3 hss hbw3 hb1 hb3 hf1 hf2 H0 H2
  go_wp2_with fail
  refine H3.out.mono ?_
  rintro e w4 ⟨A4, n4, c4, rfl, hnc4, hr4, hb4⟩
  have hbw4 := Hbw3.out.trans (hb4.mono Hbw3.out.size)
  have hz4 := (Hz3.out.below hb4).more hb4.size
  have hl4 := hr4.len
  by_cases h0 : (readB s ss 0 lo).2.2 = 0
  rotate_left
  · have hb0 := Hbad.out h0
    rw [hb0] at hl4
    have e1 : ((readB s ss 0 lo).2.2 != 0) = true := by simpa using h0
    simp only [List.length_nil] at hl4
    subst hl4
    clear h0 hb0 hr4 hz4 Hmap Hbad Hfile H8 H3
    go_wp2_with fail
    go_ret
    exact ⟨rfl, hbw4⟩
  · have e1 : ((readB s ss 0 lo).2.2 != 0) = false := by simp [h0]
    obtain ⟨hrise, hln, _, hfm⟩ := Hmap.out h0
    have hff := (Hfile.out h0).2.2.1
    have hfd := span_Find A4 n4 c4 (readB s ss 0 lo).1 r w4 hr4 (by omega)
    have hrt := fun (W : World) (hW : Below w4.heap.size w4 W) => span_Right A4 n4 c4 (readB s ss 0 lo).1 W ((hr4.below hW).more hW.size) (by omega) hrise
    have hany := says_any (hfm r)
    have hval := fun v => (hfm r v).2
    have hn300 : decide ((n4 : Int) ≤ 600) = true := decide_eq_true (by omega)
    rw [hn300] at hrt
    generalize findR (readB s ss 0 lo).1 r = fo at *
    generalize readB s ss 0 lo = ra at *
    have Hfd := Lib.hid hfd
    have Hrt := Lib.hid hrt
    have Hany := Lib.hid hany
    have Hval := Lib.hid hval
    have Hz4 := Lib.hid hz4
    have Hbw4 := Lib.hid hbw4
    clear h0 hrise hln hfm hfd hrt hany hval hz4 hbw4 hr4 hl4 Hmap Hbad Hfile H3
    go_wp2_with fail
    refine Hfd.out.mono ?_
    rintro e w5 ⟨rfl, hb5⟩
    go_wp2_with fail
    refine (H8.out w5).mono ?_
    rintro e w6 ⟨A6, n6, c6, rfl, hnc6, hrec6, hb6⟩
    have hb46 := hb5.trans (hb6.mono hb5.size)
    have hlr := hrec6.len
    have hrok := Hrec.out
    generalize (fileN s).1 = recs at *
    rw [hff]
    generalize (fileN s).2.1 = fl at *
    have Hrec6 := Lib.hid hrec6
    have Hrok := Lib.hid hrok
    have Hlr := Lib.hid hlr
    have hn6 : n6 ≤ 300 := by have := hrok.2; omega
    have Hb46 := Lib.hid hb46
    clear hrec6 hrok hlr hb5 hb6 hff H8 Hfd Hrec hb46
    go_wp2_with fail
    go_loopw [18, 19] (fun iv i wr => ∃ k : Nat, k ≤ n6 ∧ i = .int .i64 (k : Int) ∧ iv = .bool ((recs.take k).any (cndS ss r)) ∧ Below w6.heap.size w6 wr) (fun _ i _ => n6 - (RowKit.intOf i).toNat)
    case atStart => exact ⟨0, Nat.zero_le _, rfl, rfl, Below.refl _ _⟩
    case round =>
      obtain ⟨k, hk, rfl, rfl, hbr⟩ := hrel
      rcases Nat.lt_or_ge k n6 with hlt | hge
      · obtain ⟨rb, ro, rfl, hrb, hrc⟩ := Hrec6.out.at_ (by omega)
        have hkl : k < recs.length := by rw [Hlr.out]; exact hlt
        obtain ⟨Af, nf, cf, r0, r1, r2, r3, hfs, _⟩ := hrc k hkl
        have hro := Hrok.out.1 _ (List.getElem_mem hkl)
        have hfl := hfs.len
        obtain ⟨fb, fo2, rfl, hfb, hfc⟩ := hfs.at_ (by have := hro.2.2.2; omega)
        have q0 := hfc 0 (by have := hro.2.2.2; omega)
        have hsn := any_snoc recs (cndS ss r) k hkl
        have hsy : saysB ss 0 recs[k] = valB (recs[k].fs[0]'(by have := hro.2.2.2; omega)) ss 0 := by
          unfold saysB
          rw [List.getElem?_eq_getElem (by have := hro.2.2.2; omega)]
          rfl
        have hvv : ∀ v : Int, saysB ss 0 recs[k] = some v → recs[k].f ≤ r → r ≤ recs[k].t → fo = some v := fun v h1 h2 h3 => Hval.out v ⟨recs[k], List.getElem_mem hkl, h1, h2, h3⟩
        have u1 := (cellOf hbr hrb).trans r1
        have u2 := (cellOf hbr hrb).trans r2
        have u3 := (cellOf hbr hrb).trans r3
        have uq := (cellOf hbr hfb).trans q0
        have hnf : 0 < nf := by have := hro.2.2.2; omega
        simp only [Nat.add_zero] at uq
        generalize hcd : cndS ss r recs[k] = cd at hsn
        unfold cndS at hcd
        rw [hsy] at hcd hvv
        have hpv := prop_Value A3 n3 c3 ss (recs[k].fs[0]'(by have := hro.2.2.2; omega)) wr (by omega) ((((Hz4.out.below Hb46.out).more Hb46.out.size).below hbr).more hbr.size)
        generalize (recs[k].fs[0]'(by have := hro.2.2.2; omega)) = t at *
        generalize recs[k].f = xf at *
        generalize recs[k].t = xt at *
        generalize (recs.take k).any (cndS ss r) = iv at *
        have Hsn := Lib.hid hsn
        have Hvv := Lib.hid hvv
        have Hpv := Lib.hid hpv
        clear hsn hvv hpv hsy hfc hrc hfs hro r0 r1 r2 r3 q0
        rcases hvb : valB t ss 0 with _ | u
        · rw [hvb] at hcd Hpv
          simp only [Option.isSome_none, Bool.false_and] at hcd
          have Hcd := Lib.hid hcd
          simp only [Option.getD_none, Option.isSome_none] at Hpv
          clear hcd hvb Hvv
          go_wp2_with fail
          refine Hpv.out.mono ?_
          rintro e w7 ⟨rfl, hb7⟩
          have hbr7 := hbr.trans (hb7.mono hbr.size)
          go_wp2_with fail
          go_roundw
          case rel => exact ⟨k + 1, by omega, by go_num, by rw [Hsn.out, ← Hcd.out, Bool.or_false], hbr7⟩
          case measure => simp [RowKit.intOf]; omega
        · rw [hvb] at hcd Hpv Hvv
          simp only [Option.isSome_some, Bool.true_and] at hcd
          simp only [Option.getD_some, Option.isSome_some] at Hpv
          by_cases h1 : xf ≤ r
          · by_cases h2 : r ≤ xt
            · have hv := Hvv.out u rfl h1 h2
              have e2 : decide (r ≥ xf) = true := decide_eq_true h1
              have e3 : decide (r ≤ xt) = true := decide_eq_true h2
              have hcd2 : cd = true := by rw [← hcd]; simp [h1, h2]
              have e4 : (u != fo.getD 0) = false := by rw [hv]; simp
              have Hcd := Lib.hid hcd2
              clear hcd hvb Hvv h1 h2 hv hcd2
              go_wp2_with fail
              refine Hpv.out.mono ?_
              rintro e w7 ⟨rfl, hb7⟩
              have hbr7 := hbr.trans (hb7.mono hbr.size)
              have v1 := (cellOf hb7 (show rb < wr.heap.size by have := hbr.size; omega)).trans u1
              have v2 := (cellOf hb7 (show rb < wr.heap.size by have := hbr.size; omega)).trans u2
              go_wp2_with fail
              go_roundw
              case rel => exact ⟨k + 1, by omega, by go_num, by rw [Hsn.out, Hcd.out, Bool.or_true], hbr7⟩
              case measure => simp [RowKit.intOf]; omega
            · have e2 : decide (r ≥ xf) = true := decide_eq_true h1
              have e3 : decide (r ≤ xt) = false := decide_eq_false h2
              have hcd2 : cd = false := by rw [← hcd]; simp [h2]
              have Hcd := Lib.hid hcd2
              clear hcd hvb Hvv h1 h2 hcd2
              go_wp2_with fail
              refine Hpv.out.mono ?_
              rintro e w7 ⟨rfl, hb7⟩
              have hbr7 := hbr.trans (hb7.mono hbr.size)
              have v1 := (cellOf hb7 (show rb < wr.heap.size by have := hbr.size; omega)).trans u1
              have v2 := (cellOf hb7 (show rb < wr.heap.size by have := hbr.size; omega)).trans u2
              go_wp2_with fail
              go_roundw
              case rel => exact ⟨k + 1, by omega, by go_num, by rw [Hsn.out, Hcd.out, Bool.or_false], hbr7⟩
              case measure => simp [RowKit.intOf]; omega
          · have e2 : decide (r ≥ xf) = false := decide_eq_false h1
            have hcd2 : cd = false := by rw [← hcd]; simp [h1]
            have Hcd := Lib.hid hcd2
            clear hcd hvb Hvv h1 hcd2
            go_wp2_with fail
            refine Hpv.out.mono ?_
            rintro e w7 ⟨rfl, hb7⟩
            have hbr7 := hbr.trans (hb7.mono hbr.size)
            have v1 := (cellOf hb7 (show rb < wr.heap.size by have := hbr.size; omega)).trans u1
            have v2 := (cellOf hb7 (show rb < wr.heap.size by have := hbr.size; omega)).trans u2
            go_wp2_with fail
            go_roundw
            case rel => exact ⟨k + 1, by omega, by go_num, by rw [Hsn.out, Hcd.out, Bool.or_false], hbr7⟩
            case measure => simp [RowKit.intOf]; omega
      · have hall : (recs.take k).any (cndS ss r) = fo.isSome := by rw [List.take_of_length_le (by rw [Hlr.out]; exact hge)]; exact Hany.out
        rw [hall]
        have e5 : (fo.isSome == fo.isSome) = true := by simp
        have hb4r := Hb46.out.trans (hbr.mono Hb46.out.size)
        generalize fo.isSome = ob at *
        clear hall
        go_wp2_with fail
        refine (Hrt.out wr hb4r).mono ?_
        rintro e w8 ⟨rfl, hb8⟩
        go_wp2_with fail
        go_ret
        exact ⟨rfl, Hbw4.out.trans ((hb4r.trans (hb8.mono hb4r.size)).mono Hbw4.out.size)⟩
end Go.Vir


/- For every text, names, number, loose or not: what a file says of a number its records say. (The listed variables are tied to the text.) -/
namespace Go.Proofs.YtlndejiapfaifaaGreatDoor
open Go Go.Vir Go.RowKit Go.Proofs Go.ChangeShapes Go.WideShapes Go.ChangeAt

set_option maxHeartbeats 800000 in
set_option maxRecDepth 100000 in
theorem says_lifted (os : Os) (started : os.Started) (H : Type) (enc : TypeId × Value → H) :
    ReturnsInHanded {} Tryz.checked os 5 .any (fun w args => (Rows.propSaysSpec.pre enc Tryz.prog Tryz.f5 [] false w args ∧ laidMetH Tryz.prog laidP w) ∧ sizedMet enc Tryz.prog Tryz.f5 (OpenSpec.ofChange Rows.propSaysSpec) false w args)
      (Rows.propSaysSpec.post enc Tryz.prog Tryz.f5 false true false false) := by
  refine returns_shaped (C := Tryz.checked) (X := fun w _ => laidMetH Tryz.prog laidP w) (fun _ _ _ hh h => h.of_heap hh) own started (by kernel_rfl) Tryz.func5
    (ChangeSpec.witness_shaped (enc := enc) (C := Tryz.checked) (os := os) (X := fun w _ => laidMetH Tryz.prog laidP w) false (worldP os) #[.string ⟨#[]⟩, .slice none 0 0, .int .i64 0, .bool false] 8 (worldP_os os) (worldP_shaped os) (by kernel_rfl) (by kernel_rfl) (by kernel_rfl) (worldP_met os _)) ?_
  intro W base args ds gs before hval0 hW hsh hL
  have hval : ∀ (j : Nat) t v, Tryz.f5.params[j]? = some t → args[j]? = some v → Value.okWide Tryz.prog W .any base t v := hval0
  have hW' := hW
  obtain ⟨p, q, hA0, hV, rfl, _, _⟩ := hW
  have hA : DataW.TrodAll enc Tryz.prog W 0 (fun _ => true) true Tryz.f5.params.toList args.toList ds p := hA0
  rw [Tryz.params5] at hA hval
  obtain ⟨v0, v1, v2, v3, d0, d1, d2, d3, p0, p1, p2, p3, rfl, rfl, rfl, h0, h1, h2, h3⟩ := trodAll_four hA
  obtain ⟨rfl, rfl⟩ := trodVars_none hV
  have hlt : ∀ x ∈ p0 ++ p1 ++ p2 ++ p3, x.block < W.heap.size := fun x hx => by simpa using hW'.lt x (by simpa using hx)
  have hargs : ∀ (W' : World), Below W.heap.size W W' → DataW.TrodAll enc Tryz.prog W' 0 (fun b => decide (b < W.heap.size)) true #[9, 22, 3, 4].toList #[v0, v1, v2, v3].toList [d0, d1, d2, d3] (p0 ++ (p1 ++ (p2 ++ p3))) := fun W' hn =>
    trodAll_mk4 (Below.trod laidOut (by kernel_rfl) (of_decide_eq_true (by kernel_rfl)) h0 hn (fun x hx => hlt x (by simp [hx]))) (Below.trod laidOut (by kernel_rfl) (of_decide_eq_true (by kernel_rfl)) h1 hn (fun x hx => hlt x (by simp [hx]))) (Below.trod laidOut (by kernel_rfl) (of_decide_eq_true (by kernel_rfl)) h2 hn (fun x hx => hlt x (by simp [hx]))) (Below.trod laidOut (by kernel_rfl) (of_decide_eq_true (by kernel_rfl)) h3 hn (fun x hx => hlt x (by simp [hx])))
  have hG := globP_of_laid hsh hL
  have key : Calls Tryz.prog 5 #[v0, v1, v2, v3] W fun e W' => e = .returned (.bool true) ∧ Below W.heap.size W W' := by
    obtain ⟨s, rfl, hs⟩ := open_text (hval 0 9 v0 rfl rfl) h0
    obtain ⟨B, n, c, ss, rfl, hn, hz⟩ := open_texts (hval 1 22 v1 rfl rfl) h1
    obtain ⟨k, rfl, _, _, _⟩ := open_int Tryz.underlying3 (hval 2 3 v2 rfl rfl) h2
    obtain ⟨lo, rfl, _, _⟩ := open_bool Tryz.underlying4 (hval 3 4 v3 rfl rfl) h3
    exact law_says B n c ss s k lo W hG hz hn hs
  refine key.mono fun e W' ⟨he, hn⟩ => ?_
  subst he
  exact ⟨_, rfl, _, _, _, [], _, [], hW', trodAll_mk1 (shut_bool Tryz.underlying4 true), hargs _ hn, rfl, hn.frame _, fun h => by cases h⟩

set_option maxRecDepth 100000 in
set_option maxHeartbeats 4000000 in
theorem says_closed : joinedFacts Tryz.prog 5 Tryz.f5 Rows.propSaysSpec Rows.propSaysRow = true := by
  unfold joinedFacts
  repeat' (with_reducible apply and_mk)
  all_goals as_aux_lemma => kernel_rfl
set_option maxHeartbeats 4000000 in
theorem says_holds : Rows.PropSaysSaid :=
  OpenClaim.holds_of_wide 5 Tryz.f5 rfl rfl rfl rfl rfl rfl rfl ⟨rfl, rfl, rfl, rfl, rfl⟩ rfl rfl rfl rfl rfl (by kernel_rfl) Tryz.func5 says_closed
    (of_decide_eq_true (by kernel_rfl)) (by unfold Func.isWrapper; first | (rw [if_pos (by decide +kernel)]; kernel_rfl) | (rw [if_neg (by decide +kernel)]; exact ⟨rfl, rfl⟩))
    (fun os started H enc _ => says_lifted os started H enc)

theorem says_card : Rows.PropSaysCardSaid :=
  Claim7.holds_tied_plain_at .later [] [.data, .handle, .sentinel, .pinned] true (true, "4537c13a6f0fe1c7c3b14bf1be597e230857b056e25b20dc63c0762c51c1d600") true
    says_holds (fun _ h => by cases h) (by kernel_rfl) (fun _ h => by cases h) propSays_row_tie rfl ⟨rfl, rfl⟩ (by kernel_rfl) rfl
    (fun f fn hf hfn => by
      obtain rfl : f = 5 := Option.some.inj ((show Tryz.prog.funcNamed "virama/viramalaw05.PropSays" = some 5 by kernel_rfl).symm.trans hf) |>.symm
      obtain rfl : fn = Tryz.f5 := (Option.some.inj (Tryz.func5.symm.trans hfn)).symm
      exact ⟨by kernel_rfl, fun j t ht => by
        rw [Tryz.params5] at ht
        have hm : t ∈ [9, 22, 3, 4] := by simpa using Array.mem_of_getElem? ht
        have hall : ([9, 22, 3, 4].all fun u => !Tryz.prog.wantsStandIn u) = true := by kernel_rfl
        exact (show Tryz.prog.wantsStandIn t = false by simpa using List.all_eq_true.1 hall t hm)⟩)
    (by kernel_rfl)
#print axioms says_card
end Go.Proofs.YtlndejiapfaifaaGreatDoor

