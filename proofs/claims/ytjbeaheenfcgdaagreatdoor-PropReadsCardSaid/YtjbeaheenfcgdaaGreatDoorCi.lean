/- Joined texts: Sh5, Rf3. -/
import Derived.Test.YtjbeaheenfcgdaaGreatDoorCh
import Derived.Test.YtjbeaheenfcgdaaGreatDoorCb
import Derived.Test.YtjbeaheenfcgdaaGreatDoorCd
import Derived.Test.YtjbeaheenfcgdaaGreatDoorCc
/- viramalaw05: shown, cut. -/
namespace Go.Vir
open Go Go.RowKit Go.Proofs Go.Shelf
attribute [local go_sem] Oper.semAt_some

def shF : List UInt8 := [48, 51, 48, 48, 46, 46, 48, 51, 54, 70, 32, 59, 32, 69, 120, 116, 101, 110, 100]
def shF2 : List UInt8 := [48, 51, 48, 48, 59, 69, 120, 116, 101, 110, 100, 10, 48, 48, 52, 49, 59, 79, 100, 100]
theorem sp1 : readB shF shN 0 false = (shG, 0, 0) := by decide +kernel
theorem sp2 : ofB shF shN 769 = ([69, 120, 116, 101, 110, 100], 0) := by decide +kernel
theorem sp3 : readB shF2 shN 0 false = ([], 2, 40) := by decide +kernel
theorem strs_two (V : World) (t u : List UInt8) : Strs (V.alloc (.cells #[.string ⟨t.toArray⟩, .string ⟨u.toArray⟩] 9)) (V.alloc (.cells #[.string ⟨t.toArray⟩, .string ⟨u.toArray⟩] 9)).heap.size (some ⟨V.heap.size, 0, none⟩) 2 [t, u] :=
  ⟨rfl, fun _ => ⟨V.heap.size, 0, rfl, by simp, fun j hj => by
    match j, hj with
    | 0, _ => exact cell_blk (heap_new rfl) 0
    | 1, _ => exact cell_blk (heap_new rfl) 1⟩⟩
theorem rgs_one (V : World) (x : Rg) : Rgs (V.alloc (.cells #[.int .i64 x.f, .int .i64 x.t, .int .i64 x.v] 65)) (V.alloc (.cells #[.int .i64 x.f, .int .i64 x.t, .int .i64 x.v] 65)).heap.size (some ⟨V.heap.size, 0, none⟩) 1 [x] :=
  ⟨rfl, fun _ => ⟨V.heap.size, 0, rfl, by simp, fun j hj => by
    obtain rfl : j = 0 := by simpa using hj
    exact ⟨cell_blk (heap_new rfl) 0, cell_blk (heap_new rfl) 1, cell_blk (heap_new rfl) 2⟩⟩⟩

set_option maxRecDepth 1000000 in
set_option maxHeartbeats 4000000 in
theorem law05_shown (w : World) (hG : GlobP w) : Calls Tryz.prog 12 #[] w fun e w' => e = .returned (.bool true) ∧ Below w.heap.size w w' := by
  have hnm : ∀ x ∈ shN, x.length ≤ 1000000 := by decide
  have hb1 : Below w.heap.size w (w.alloc (.cells #[.string ⟨#[79, 116, 104, 101, 114]⟩, .string ⟨#[69, 120, 116, 101, 110, 100]⟩] 9)) := by go_grown
  have hz1 : Strs (w.alloc (.cells #[.string ⟨#[79, 116, 104, 101, 114]⟩, .string ⟨#[69, 120, 116, 101, 110, 100]⟩] 9)) (w.alloc (.cells #[.string ⟨#[79, 116, 104, 101, 114]⟩, .string ⟨#[69, 120, 116, 101, 110, 100]⟩] 9)).heap.size (some ⟨w.heap.size, 0, none⟩) 2 shN := strs_two w [79, 116, 104, 101, 114] [69, 120, 116, 101, 110, 100]
  have h1 := prop_Read (some ⟨w.heap.size, 0, none⟩) 2 2 0 false shN shF _ (hG.below hb1) hz1 (by omega) hnm (by decide)
  rw [sp1] at h1
  have Hz1 := Lib.hid hz1
  have Hb1 := Lib.hid hb1
  have H1 := Lib.hid h1
  have HG := Lib.hid hG
  have Hnm := Lib.hid hnm
  clear h1 hz1 hb1 hG hnm
  go_enter Tryz.func12, Tryz.ntmps12
  go_wp2_with fail
  refine H1.out.mono ?_
  generalize w.alloc (.cells #[.string ⟨#[79, 116, 104, 101, 114]⟩, .string ⟨#[69, 120, 116, 101, 110, 100]⟩] 9) = w1 at *
  rintro e w2 ⟨A1, n1, c1, rfl, hnc1, hr1, hb2⟩
  obtain rfl : n1 = 1 := hr1.len.symm
  have hbw2 := Hb1.out.trans (hb2.mono Hb1.out.size)
  have hz2 := (Hz1.out.below hb2).more hb2.size
  have h2 := prop_Of (some ⟨w.heap.size, 0, none⟩) 2 2 shN shF 769 w2 (HG.out.below hbw2) hz2 (by omega) Hnm.out (by decide)
  rw [sp2] at h2
  have H2 := Lib.hid h2
  have Hr1 := Lib.hid hr1
  have Hz2 := Lib.hid hz2
  have Hbw2 := Lib.hid hbw2
  clear h2 hr1 hz2 hbw2 hb2
  go_wp2_with fail
  refine H2.out.mono ?_
  rintro e w3 ⟨rfl, hb3⟩
  have hbw3 := Hbw2.out.trans (hb3.mono Hbw2.out.size)
  have hz3 := (Hz2.out.below hb3).more hb3.size
  have hr3 := (Hr1.out.below hb3).more hb3.size
  have h3 := prop_Read (some ⟨w.heap.size, 0, none⟩) 2 2 0 false shN shF2 w3 (HG.out.below hbw3) hz3 (by omega) Hnm.out (by decide)
  rw [sp3] at h3
  have H3 := Lib.hid h3
  have Hr3 := Lib.hid hr3
  have Hz3 := Lib.hid hz3
  have Hbw3 := Lib.hid hbw3
  clear h3 hr3 hz3 hbw3 hb3
  go_wp2_with fail
  refine H3.out.mono ?_
  rintro e w4 ⟨A4, n4, c4, rfl, hnc4, hr4, hb4⟩
  have hbw4 := Hbw3.out.trans (hb4.mono Hbw3.out.size)
  have hz4 := (Hz3.out.below hb4).more hb4.size
  have hr4 := (Hr3.out.below hb4).more hb4.size
  have h4 := write_sh A1 c1 (some ⟨w.heap.size, 0, none⟩) 2 w4 hr4 hz4
  have H4 := Lib.hid h4
  have Hr4 := Lib.hid hr4
  have Hbw4 := Lib.hid hbw4
  clear h4 hr4 hz4 hbw4 hb4
  go_wp2_with fail
  refine H4.out.mono ?_
  rintro e w5 ⟨rfl, hb5⟩
  have hbw5 := Hbw4.out.trans (hb5.mono Hbw4.out.size)
  have hr5 := (Hr4.out.below hb5).more hb5.size
  have hb6 : Below w5.heap.size w5 (w5.alloc (.cells #[.int .i64 768, .int .i64 879, .int .i64 1] 65)) := by go_grown
  have h5 := ref_SameR A1 (some ⟨w5.heap.size, 0, none⟩) 1 c1 1 1 shG shG (w5.alloc (.cells #[.int .i64 768, .int .i64 879, .int .i64 1] 65)) ((hr5.below hb6).more hb6.size) (rgs_one w5 { f := 768, t := 879, v := 1 }) (by omega) (by omega)
  rw [show decide (shG = shG) = true by decide] at h5
  have H5 := Lib.hid h5
  have Hbw5 := Lib.hid (hbw5.trans (hb6.mono hbw5.size))
  clear h5 hr5 hbw5 hb5 hb6
  go_wp2_with fail
  refine H5.out.mono ?_
  rintro e w6 ⟨rfl, hb7⟩
  go_wp2_with fail
  go_ret
  exact ⟨rfl, Hbw5.out.trans (hb7.mono Hbw5.out.size)⟩

theorem take_min (s : List UInt8) (n : Nat) : s.take (min s.length n) = s.take n := by
  rcases Nat.le_total s.length n with h | h
  · rw [Nat.min_eq_left h, List.take_length, List.take_of_length_le h]
  · rw [Nat.min_eq_right h]
theorem law05_cut (s : List UInt8) (w : World) (hs : s.length ≤ 9223372036854775807) : Calls Tryz.prog 13 #[.string ⟨s.toArray⟩] w fun e w' => e = .returned (.string ⟨(s.take 600).toArray⟩) ∧ w' = w := by
  have hm : (min (s.length : Int) 600).toNat = min s.length 600 := by omega
  go_enter Tryz.func13, Tryz.ntmps13
  go_wp2_with fail
  go_ret
  refine ⟨?_, rfl⟩
  show Ending.returned (.string ((⟨s.toArray⟩ : ByteArray).extract 0 (min s.length 600))) = _
  rw [text_cut, take_min]
end Go.Vir


/- viramaref03.Parse. -/
namespace Go.Vir
open Go Go.RowKit Go.Proofs Go.Shelf
attribute [local go_sem] Oper.semAt_some

set_option maxRecDepth 100000 in
set_option maxHeartbeats 8000000 in
theorem ref_Parse3 (s : List UInt8) (w : World) (hl : s.length ≤ 20000) :
    Calls Tryz.prog 48 #[.string ⟨s.toArray⟩] w fun e w' => ∃ A n c, e = .returned (.tuple #[.slice A n c, .int .i64 (fileN s).2.1, .int .i64 (fileN s).2.2]) ∧ n ≤ c ∧ Recs w' w'.heap.size A n (fileN s).1 ∧ Below w.heap.size w w' := by
  obtain ⟨i0, hi0, hz0, hz1, hz2⟩ := info_parts rec_info
  have hle : decide (20000 < (s.length : Int)) = false := decide_eq_false (by omega)
  have hfe : fileN s = recsN (splitL 10 s) 0 [] := rfl
  obtain ⟨F, hF⟩ : ∃ F, F = fileN s := ⟨_, rfl⟩
  rw [← hF]
  rw [← hF] at hfe
  have Hfe := Lib.hid hfe
  clear hfe hF
  go_enter Tryz.func48, Tryz.ntmps48
  go_wp2_with fail
  refine (ref_Split s 10 w (by omega)).mono ?_
  rintro e w4 ⟨A2, n2, d2, rfl, hnd2, hS2, hb4⟩
  have hlen2 := hS2.len
  have hmem : ∀ t ∈ splitL 10 s, t.length ≤ 100000 := fun t ht => by have := (splitL_mem 10 s t ht).1; omega
  have hsl := splitL_length 10 s
  generalize splitL 10 s = ls at *
  have Hmem := Lib.hid hmem
  have Hlen2 := Lib.hid hlen2
  have hn2 : n2 ≤ 20001 := by omega
  clear hmem hlen2
  go_wp2_with fail
  go_loopw [5, 7] (fun v0 i wr => ∃ (k : Nat) (acc : List RecV) (v : Value) (xs : List Value), v = v0 ∧ k ≤ n2 ∧ i = .int .i64 (k : Int) ∧ wr.ownsRow w4.heap.size 82 4 v acc.length xs ∧ RCs wr wr.heap.size w4.heap.size v.ownBlock acc xs ∧ acc.length ≤ 300 ∧ Below w4.heap.size w4 wr ∧ F = recsN (ls.drop k) k acc) (fun _ i _ => n2 - (RowKit.intOf i).toNat)
  case atStart => exact ⟨0, [], _, [], rfl, Nat.zero_le _, rfl, World.ownsRow_nil _ _ _ _, rfl, by simp, Below.refl _ _, by rw [List.drop_zero]; exact Hfe.out⟩
  case round =>
    obtain ⟨k, acc, v, xs, rfl, hk, rfl, hown, hrv, hacc, hbq, hlin⟩ := hrel
    have hbr : Below w.heap.size w wr := hb4.trans (hbq.mono hb4.size)
    have Hlin := Lib.hid hlin
    clear hlin
    rcases Nat.lt_or_ge k n2 with hlt | hge
    · obtain ⟨zb, zo, rfl, hzb, hzc⟩ := (hS2.below hbq).at_ (by omega)
      have hkl : k < ls.length := by rw [Hlen2.out]; exact hlt
      have z1 := hzc k hkl
      have ht := Hmem.out _ (List.getElem_mem hkl)
      have hstep : F = match lineN ls[k] with
          | .none => recsN (ls.drop (k + 1)) (k + 1) acc
          | .bad w => ([], (k : Int) + 1, w)
          | .rcd a b fs => if acc.length = 300 then ([], (k : Int) + 1, 24) else recsN (ls.drop (k + 1)) (k + 1) (acc ++ [{ line := (k : Int) + 1, f := (a : Int), t := (b : Int), fs := fs }]) := by
        rw [Hlin.out, List.drop_eq_getElem_cons hkl, recsN_cons]
        cases lineN ls[k] <;> rfl
      have Hstep := Lib.hid hstep
      clear hzc hstep
      generalize ls[k] = t at z1 Hstep ht
      have hln := ref_Line t wr ht
      have hwhy := fun (x : Int) (h : lineN t = .bad x) => lineN_why h
      generalize lineN t = r at hln Hstep hwhy
      have Hln := Lib.hid hln
      have Hwhy := Lib.hid hwhy
      have Hown := Lib.hid hown
      have Hrv := Lib.hid hrv
      clear hln hown hrv hwhy
      go_wp2_with fail
      refine Hln.out.mono ?_
      rintro e w5 ⟨he, hb6⟩
      have hown5 := ownsRow_below Hown.out hb6
      have hrv5 := Hrv.out.below hb6 hb6.size
      have hbq5 : Below w4.heap.size w4 w5 := hbq.trans (hb6.mono hbq.size)
      have hbw5 := hbr.trans (hb6.mono hbr.size)
      rcases r with _ | why | ⟨a, b, fs⟩
      · obtain rfl : e = _ := he
        have hs2 : F = recsN (ls.drop (k + 1)) (k + 1) acc := Hstep.out
        have Hs2 := Lib.hid hs2
        have hbA : Below w5.heap.size w5 (w5.alloc (.cells zeroC 82)) := (Below.refl _ w5).alloc (Nat.le_refl _) _
        have Hown6 := Lib.hid (ownsRow_below hown5 hbA)
        have Hrv6 := Lib.hid (hrv5.below hbA hbA.size)
        have Hbq6 := Lib.hid (hbq5.trans (hbA.mono hbq5.size))
        clear hs2 hown5 hrv5 hbA hbq5 z1
        go_wp2_with fail
        go_roundw
        case rel => exact ⟨k + 1, acc, _, xs, rfl, by omega, by go_num, Hown6.out, Hrv6.out, hacc, Hbq6.out, Hs2.out⟩
        case measure => simp [RowKit.intOf]; omega
      · obtain rfl : e = _ := he
        have hs2 : F = ([], (k : Int) + 1, why) := Hstep.out
        have Hs2 := Lib.hid hs2
        have hw0 : (why != 0) = true := by rcases Hwhy.out why rfl with rfl | rfl | rfl <;> rfl
        clear hs2 hown5 hrv5 hbq5 z1
        go_wp2_with fail
        go_ret3
        exact ⟨none, 0, 0, by rw [Hs2.out]; rfl, Nat.le_refl _, by rw [Hs2.out]; exact Recs.nil _ _ _, hbw5.alloc hbw5.size _⟩
      · obtain ⟨Af, nf, cf, rfl, hM, hnf, hfr⟩ := he
        by_cases hmany : acc.length = 300
        · have hs2 : F = ([], (k : Int) + 1, 24) := by rw [Hstep.out]; exact if_pos hmany
          have Hs2 := Lib.hid hs2
          have h300 : ((acc.length : Int) == 300) = true := by rw [hmany]; rfl
          obtain ⟨Aw, nw, cw, rfl, hnw, hnc2, hRl⟩ := recs_own hown5 hrv5 (Nat.le_refl _)
          subst hnw
          clear hs2 hown5 hrv5 hRl hmany hbq5 z1 hM hfr
          go_wp2_with fail
          go_ret3
          exact ⟨none, 0, 0, by rw [Hs2.out]; rfl, Nat.le_refl _, by rw [Hs2.out]; exact Recs.nil _ _ _, hbw5.alloc hbw5.size _⟩
        · have hs2 : F = recsN (ls.drop (k + 1)) (k + 1) (acc ++ [{ line := (k : Int) + 1, f := (a : Int), t := (b : Int), fs := fs }]) := by rw [Hstep.out]; exact if_neg hmany
          have Hs2 := Lib.hid hs2
          have h300 : ((acc.length : Int) == 300) = false := by rw [beq_eq_false_iff_ne]; omega
          have hlt300 : acc.length < 300 := by omega
          have hbA : Below w5.heap.size w5 (w5.alloc (.cells #[.int .i64 ((k : Int) + 1), .int .i64 (a : Int), .int .i64 (b : Int), .slice Af nf cf] 82)) := (Below.refl _ w5).alloc (Nat.le_refl _) _
          have hbk2 : (w5.alloc (.cells #[.int .i64 ((k : Int) + 1), .int .i64 (a : Int), .int .i64 (b : Int), .slice Af nf cf] 82)).heap[w5.heap.size]? = some (.cells #[.int .i64 ((k : Int) + 1), .int .i64 (a : Int), .int .i64 (b : Int), .slice Af nf cf] 82 (0, 0)) := heap_new rfl
          have hOl : Off w4.heap.size v.ownBlock Af nf := fun h => by
            obtain ⟨bb, o, e, hb⟩ := hfr h
            exact ⟨bb, o, e, by have := hbq.size; omega, fun hc => by have := (Hown.out.lt bb hc.symm).2; omega⟩
          have hrvS := hrv5.snoc (x := { line := (k : Int) + 1, f := (a : Int), t := (b : Int), fs := fs }) hM hnf hOl
          obtain ⟨Aw, nw, cw, rfl, hnw, hnc2, hRl⟩ := recs_own hown5 hrv5 (Nat.le_refl _)
          subst hnw
          have Hlt5 := Lib.hid hown5.lt
          have HownA := Lib.hid (ownsRow_below hown5 hbA)
          have HrvS := Lib.hid (hrvS.below hbA hbA.size)
          have HbqA := Lib.hid (hbq5.trans (hbA.mono hbq5.size))
          have hszA := hbA.size
          have hF5 := hbq5.size
          clear hs2 hown5 hrv5 hRl hmany hbq5 z1 hM hfr hOl hrvS hbA
          go_upto_region 15 with fail
          generalize w5.alloc (.cells #[.int .i64 ((k : Int) + 1), .int .i64 (a : Int), .int .i64 (b : Int), .slice Af nf cf] 82) = wA at *
          have d0 := cell_blk hbk2 0
          have d1 := cell_blk hbk2 1
          have d2 := cell_blk hbk2 2
          have d3 := cell_blk hbk2 3
          simp only [List.getElem?_toArray, List.getElem?_cons_zero, List.getElem?_cons_succ] at d0 d1 d2 d3
          clear hbk2
          go_wp2_with (at_builtin; refine wpList_append_at _ rfl _ _ 78 rfl w4.heap.size 82 i0 (.agg #[.int .i64 0, .int .i64 0, .int .i64 0, .slice none 0 0]) 4 48 Tryz.underlying78 hi0 hz0 hz1 hz2 rfl (by decide) _ _ _ rfl (HownA.out.alloc _) ⟨wA.heap.size, 0, none⟩ 1 1 [.int .i64 ((k : Int) + 1), .int .i64 (a : Int), .int .i64 (b : Int), .slice Af nf cf] rfl rfl (cell_four_new wA _ _ _ _ _) (by intro u hu; simp at hu; rcases hu with rfl | rfl | rfl | rfl <;> rfl) (by simp only [maxLen]; omega) (by omega) (by simp; omega) ?_; intro v' w8 hown8 hgrow hat)
          have hbB : Below wA.heap.size wA (wA.alloc (.cells #[.int .i64 ((k : Int) + 1), .int .i64 (a : Int), .int .i64 (b : Int), .slice Af nf cf] 82)) := (Below.refl _ wA).alloc (Nat.le_refl _) _
          have hrv8 := rcs_added (HrvS.out.below hbB hbB.size) (Nat.le_refl _) hgrow hat
          have hbq8 : Below w4.heap.size w4 w8 := (HbqA.out.trans (hbB.mono HbqA.out.size)).grown hgrow (HbqA.out.trans (hbB.mono HbqA.out.size)).size (fun g hg => (Hlt5.out g hg).1)
          go_roundw
          case rel => exact ⟨k + 1, acc ++ [{ line := (k : Int) + 1, f := (a : Int), t := (b : Int), fs := fs }], _, _, rfl, by omega, by go_num, by rw [List.length_append]; exact hown8, hrv8, by simp; omega, hbq8, Hs2.out⟩
          case measure => simp [RowKit.intOf]; omega
    · have hfin : F = (acc, 0, 0) := by rw [Hlin.out, List.drop_eq_nil_of_le (by rw [Hlen2.out]; exact hge), recsN]
      have Hfin := Lib.hid hfin
      obtain ⟨Aw, nw, cw, rfl, hnw, hnc2, hRl⟩ := recs_own hown hrv (Nat.le_refl _)
      have HRl := Lib.hid hRl
      clear hfin hnw hown hrv hRl
      go_wp2_with fail
      go_ret3
      exact ⟨Aw, nw, cw, by rw [Hfin.out]; rfl, hnc2, by rw [Hfin.out]; exact HRl.out, hbr⟩
end Go.Vir

