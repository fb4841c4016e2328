/- viramalaw09: few, PatternItem. -/
import Derived.Test.YtiedahfminhnbaaGreatDoorWkX
namespace Go.Vir
open Go Go.RowKit Go.Proofs Go.Shelf
attribute [local go_sem] Oper.semAt_some

theorem law_few (A : Option Addr) (n c : Nat) (w : World) (hc : n ≤ c) : Calls Tryz.prog 18 #[.slice A n c] w fun e w' => e = .returned (.slice A (min n 40) c) ∧ w = w' := by
  go_enter Tryz.func18, Tryz.ntmps18
  go_wp2_with fail
  go_ret
  refine ⟨?_, rfl⟩
  rw [show (min (n : Int) 40).toNat = min n 40 by omega]
  rfl

theorem mtB_one (x : Int × Int) (l : List Int) : mtB [x] l = oneB x l := by
  rw [Bool.eq_iff_iff]
  simp only [mtB, List.any_eq_true, List.mem_range, Bool.and_eq_true, List.isEmpty_iff]
  constructor
  · rintro ⟨k, hk, h1, h2⟩
    have : l.take k = l := List.take_of_length_le (by have := congrArg List.length h2; simp at this; omega)
    rwa [this] at h1
  · intro h
    exact ⟨l.length, by omega, by simpa using h, by simp⟩

/-- What PatternItem wants of the kind alone. -/
def kindB (how : Int) (m : Nat) : Bool := how == 1 || (how == 0 && m == 1) || (how == 2 && m % 2 == 0)

theorem fits_one {set how : Int} {l : List Int} (h : patB 32 [(set, how)] = true) : fitsB [(set, how)] l = (kindB how l.length && l.all (bitB set)) := by
  have h2 := (patB_items h).2 (set, how) (by simp)
  simp only [fitsB, h, mtB_one, oneB, Bool.true_and]
  rw [Bool.and_comm]
  congr 1
  obtain h0 | h0 | h0 : how = 0 ∨ how = 1 ∨ how = 2 := by simp only at h2; omega
  all_goals subst h0; simp [kindB]
theorem fits_wrong {xs : List (Int × Int)} {l : List Int} (h : patB 32 xs = false) : fitsB xs l = false := by simp [fitsB, h]

theorem prs_new (W : World) (s h : Int) (t : TypeId) : Prs (W.alloc (.cells #[.int .i64 s, .int .i64 h] t)) (W.alloc (.cells #[.int .i64 s, .int .i64 h] t)).heap.size (some ⟨W.heap.size, 0, none⟩) 1 [(s, h)] :=
  have e : (W.alloc (.cells #[.int .i64 s, .int .i64 h] t)).heap[W.heap.size]? = some (.cells #[.int .i64 s, .int .i64 h] t (0, 0)) := heap_new rfl
  ⟨rfl, fun _ => ⟨W.heap.size, 0, rfl, (Array.getElem?_eq_some_iff.1 e).1, fun j hj => by
    obtain rfl : j = 0 := by simpa using hj
    exact ⟨cell_blk e 0, cell_blk e 1⟩⟩⟩

set_option maxHeartbeats 4000000 in
theorem law_item (set how : Int) (A : Option Addr) (n c : Nat) (zs : List Int) (w : World) (hG : Globs w) (hz : Ints w w.heap.size A n zs) (hc : n ≤ c) :
    Calls Tryz.prog 7 #[.int .i64 set, .int .i64 how, .slice A n c] w fun e w' => e = .returned (.bool true) ∧ Below w.heap.size w w' := by
  go_enter Tryz.func7, Tryz.ntmps7
  go_wp2_with fail
  refine (law_shown _ (hG.below (by go_grown))).mono ?_
  rintro e w1 ⟨rfl, hb1⟩
  have hb1' : Below w.heap.size w w1 := Below.trans (by go_grown) (hb1.mono (by simp))
  have hz1 := (hz.below hb1').more hb1'.size
  clear hb1 hz
  go_wp2_with fail
  refine (law_few A n c _ hc).mono ?_
  rintro e w1' ⟨rfl, rfl⟩
  have hz2 : Ints w1 w1.heap.size A (min n 40) (zs.take (min n 40)) := hz1.take _ (by omega)
  have hm : min n 40 ≤ 40 := by omega
  have hmc : min n 40 ≤ c := by omega
  generalize min n 40 = m at *
  generalize zs.take m = l at *
  clear hz1 hc
  have hi1 : Below w1.heap.size w1 ((w1.alloc (.cells #[.int .i64 set, .int .i64 how] 42)).alloc (.cells #[.bool false, .slice (some ⟨w1.heap.size, 0, none⟩) 1 1] 24)) := by go_grown
  have hp0 := prs_new w1 set how 42
  go_wp2_with fail
  have q0 : ((w1.alloc (.cells #[.int .i64 set, .int .i64 how] 42)).alloc (.cells #[.bool false, .slice (some ⟨w1.heap.size, 0, none⟩) 1 1] 24)).heap[w1.heap.size + 1]? = some (.cells #[.bool false, .slice (some ⟨w1.heap.size, 0, none⟩) 1 1] 24 (0, 0)) := heap_new (by simp)
  have hp2 := (hp0.below (Below.alloc (Below.refl _ _) (Nat.le_refl _) (.cells #[.bool false, .slice (some ⟨w1.heap.size, 0, none⟩) 1 1] 24))).more (B' := ((w1.alloc (.cells #[.int .i64 set, .int .i64 how] 42)).alloc (.cells #[.bool false, .slice (some ⟨w1.heap.size, 0, none⟩) 1 1] 24)).heap.size) (by simp)
  clear hp0
  generalize ((w1.alloc (.cells #[.int .i64 set, .int .i64 how] 42)).alloc (.cells #[.bool false, .slice (some ⟨w1.heap.size, 0, none⟩) 1 1] 24)) = W2 at *
  have hz3 := (hz2.below hi1).more hi1.size
  refine (pattern_Fits false _ A 1 1 m c [(set, how)] l W2 hp2 hz3 (by omega) (by omega)).mono ?_
  rintro e W3 ⟨rfl, hi2⟩
  have q1 := (hi2.block _ (Array.getElem?_eq_some_iff.1 q0).1).trans q0
  have hp3 := (hp2.below hi2).more hi2.size
  have hz4 := (hz3.below hi2).more hi2.size
  have hi3 : Below w.heap.size w W3 := hb1'.trans ((hi1.trans (hi2.mono hi1.size)).mono hb1'.size)
  clear hi1 hi2 q0 hp2 hz3 hz2 hb1'
  have c10 : W3.cell? ⟨w1.heap.size + 1, 0, none⟩ = some (.bool false) := cell_blk q1 0
  have c11 : W3.cell? ⟨w1.heap.size + 1, 1, none⟩ = some (.slice (some ⟨w1.heap.size, 0, none⟩) 1 1) := cell_blk q1 1
  have hlm := hz4.len
  rcases hP : patB 32 [(set, how)] with _ | _
  · rw [fits_wrong hP]
    have hr := pattern_Right false (some ⟨w1.heap.size, 0, none⟩) 1 1 [(set, how)] 32 W3 hp3 (by omega)
    rw [hP] at hr
    go_wp2_with fail
    refine hr.mono ?_
    rintro e W4 ⟨rfl, hi4⟩
    clear c10 c11 hr
    go_wp2_with fail
    go_ret
    exact ⟨rfl, hi3.trans (hi4.mono hi3.size)⟩
  · rw [fits_one hP, hlm]
    have h2 := (patB_items hP).2 (set, how) (by simp)
    have hr := pattern_Right false (some ⟨w1.heap.size, 0, none⟩) 1 1 [(set, how)] 32 W3 hp3 (by omega)
    rw [hP] at hr
    go_wp2_with fail
    refine hr.mono ?_
    rintro e W4 ⟨rfl, hi4⟩
    have hz5 := (hz4.below hi4).more hi4.size
    have hi5 := hi3.trans (hi4.mono hi3.size)
    clear c10 c11 hr hi4 hz4 hp3 q1 hi3
    have Hlm := Lib.hid hlm
    clear hlm
    have hk : ∃ f, f = (kindB how m && l.all (bitB set)) := ⟨_, rfl⟩
    obtain ⟨f, hf⟩ := hk
    rw [← hf]
    have Hf := Lib.hid hf
    clear hf
    go_upto_region 7 with fail
    obtain h0 | h0 | h0 : how = 0 ∨ how = 1 ∨ how = 2 := by omega
    all_goals subst h0
    all_goals clear h2
    · rcases Nat.decEq m 1 with hm1 | hm1
      · have hk1 : ((m : Int) == 1) = false := by rw [beq_eq_false_iff_ne]; omega
        have hb0 : f = (false && l.all (bitB set)) := by rw [Hf.out]; simp [kindB, hm1]
        have Hb0 := Lib.hid hb0
        clear hb0 Hf
        go_upto_region 9 with fail
        go_loop [10, 11] (fun v i => ∃ (k : Nat) (b : Bool), k ≤ m ∧ i = .int .i64 (k : Int) ∧ v = .bool b ∧ b = (false && (l.take k).all (bitB set))) (fun _ i => m - (RowKit.intOf i).toNat)
        case atStart => exact ⟨0, false, Nat.zero_le _, rfl, rfl, by simp⟩
        case round =>
          obtain ⟨k, b, hk, rfl, rfl, hb⟩ := hrel
          have Hb := Lib.hid hb
          clear hb
          rcases Nat.lt_or_ge k m with hlt | hge
          · obtain ⟨zb, zo, rfl, hzb, hzc⟩ := hz5.at_ (by omega)
            have hkl : k < l.length := by rw [Hlm.out]; exact hlt
            have z1 := hzc k hkl
            have hall : (false && (l.take (k + 1)).all (bitB set)) = (b && bitB set l[k]) := by
              rw [Hb.out, List.take_add_one, List.all_append, List.getElem?_eq_getElem hkl]
              simp
            have Hall := Lib.hid hall
            clear hzc hall
            generalize l[k] = t at z1 Hall
            rcases b with _ | _
            · go_wp2_with fail
              go_round
              case rel => exact ⟨k + 1, false, by omega, by go_num, rfl, by rw [Hall.out]; rfl⟩
              case measure => simp [RowKit.intOf]; omega
            · go_wp2_with (go_at_call 23; refine (class_Has _ _ _).mono ?_; rintro e w' ⟨rfl, rfl⟩)
              go_round
              case rel => exact ⟨k + 1, _, by omega, by go_num, rfl, by rw [Hall.out]; rfl⟩
              case measure => simp [RowKit.intOf]; omega
          · have hfb : f = b := by rw [Hb0.out, Hb.out, List.take_of_length_le (by rw [Hlm.out]; exact hge)]
            subst hfb
            rcases f with _ | _
            · go_wp2_with fail
              all_goals (go_ret; exact ⟨rfl, hi5⟩)
            · go_wp2_with fail
              all_goals (go_ret; exact ⟨rfl, hi5⟩)
      · subst hm1
        have hb0 : f = (true && l.all (bitB set)) := by rw [Hf.out]; simp [kindB]
        have Hb0 := Lib.hid hb0
        clear hb0 Hf
        go_upto_region 9 with fail
        go_loop [10, 11] (fun v i => ∃ (k : Nat) (b : Bool), k ≤ 1 ∧ i = .int .i64 (k : Int) ∧ v = .bool b ∧ b = (true && (l.take k).all (bitB set))) (fun _ i => 1 - (RowKit.intOf i).toNat)
        case atStart => exact ⟨0, true, Nat.zero_le _, rfl, rfl, by simp⟩
        case round =>
          obtain ⟨k, b, hk, rfl, rfl, hb⟩ := hrel
          have Hb := Lib.hid hb
          clear hb
          rcases Nat.lt_or_ge k 1 with hlt | hge
          · obtain ⟨zb, zo, rfl, hzb, hzc⟩ := hz5.at_ (by omega)
            have hkl : k < l.length := by rw [Hlm.out]; exact hlt
            have z1 := hzc k hkl
            have hall : (true && (l.take (k + 1)).all (bitB set)) = (b && bitB set l[k]) := by
              rw [Hb.out, List.take_add_one, List.all_append, List.getElem?_eq_getElem hkl]
              simp
            have Hall := Lib.hid hall
            clear hzc hall
            generalize l[k] = t at z1 Hall
            rcases b with _ | _
            · go_wp2_with fail
              go_round
              case rel => exact ⟨k + 1, false, by omega, by go_num, rfl, by rw [Hall.out]; rfl⟩
              case measure => simp [RowKit.intOf]; omega
            · go_wp2_with (go_at_call 23; refine (class_Has _ _ _).mono ?_; rintro e w' ⟨rfl, rfl⟩)
              go_round
              case rel => exact ⟨k + 1, _, by omega, by go_num, rfl, by rw [Hall.out]; rfl⟩
              case measure => simp [RowKit.intOf]; omega
          · have hfb : f = b := by rw [Hb0.out, Hb.out, List.take_of_length_le (by rw [Hlm.out]; exact hge)]
            subst hfb
            rcases f with _ | _
            · go_wp2_with fail
              all_goals (go_ret; exact ⟨rfl, hi5⟩)
            · go_wp2_with fail
              all_goals (go_ret; exact ⟨rfl, hi5⟩)
    · have hb0 : f = (true && l.all (bitB set)) := by rw [Hf.out]; simp [kindB]
      have Hb0 := Lib.hid hb0
      clear hb0 Hf
      go_upto_region 9 with fail
      go_loop [10, 11] (fun v i => ∃ (k : Nat) (b : Bool), k ≤ m ∧ i = .int .i64 (k : Int) ∧ v = .bool b ∧ b = (true && (l.take k).all (bitB set))) (fun _ i => m - (RowKit.intOf i).toNat)
      case atStart => exact ⟨0, true, Nat.zero_le _, rfl, rfl, by simp⟩
      case round =>
        obtain ⟨k, b, hk, rfl, rfl, hb⟩ := hrel
        have Hb := Lib.hid hb
        clear hb
        rcases Nat.lt_or_ge k m with hlt | hge
        · obtain ⟨zb, zo, rfl, hzb, hzc⟩ := hz5.at_ (by omega)
          have hkl : k < l.length := by rw [Hlm.out]; exact hlt
          have z1 := hzc k hkl
          have hall : (true && (l.take (k + 1)).all (bitB set)) = (b && bitB set l[k]) := by
            rw [Hb.out, List.take_add_one, List.all_append, List.getElem?_eq_getElem hkl]
            simp
          have Hall := Lib.hid hall
          clear hzc hall
          generalize l[k] = t at z1 Hall
          rcases b with _ | _
          · go_wp2_with fail
            go_round
            case rel => exact ⟨k + 1, false, by omega, by go_num, rfl, by rw [Hall.out]; rfl⟩
            case measure => simp [RowKit.intOf]; omega
          · go_wp2_with (go_at_call 23; refine (class_Has _ _ _).mono ?_; rintro e w' ⟨rfl, rfl⟩)
            go_round
            case rel => exact ⟨k + 1, _, by omega, by go_num, rfl, by rw [Hall.out]; rfl⟩
            case measure => simp [RowKit.intOf]; omega
        · have hfb : f = b := by rw [Hb0.out, Hb.out, List.take_of_length_le (by rw [Hlm.out]; exact hge)]
          subst hfb
          rcases f with _ | _
          · go_wp2_with fail
            all_goals (go_ret; exact ⟨rfl, hi5⟩)
          · go_wp2_with fail
            all_goals (go_ret; exact ⟨rfl, hi5⟩)
    · rcases hpar : ((m : Int) % 2 == 0) with _ | _
      · have hb0 : f = (false && l.all (bitB set)) := by rw [Hf.out]; simp [kindB]; intro h; rw [beq_eq_false_iff_ne] at hpar; omega
        have Hb0 := Lib.hid hb0
        clear hb0 Hf
        go_upto_region 9 with fail
        go_loop [10, 11] (fun v i => ∃ (k : Nat) (b : Bool), k ≤ m ∧ i = .int .i64 (k : Int) ∧ v = .bool b ∧ b = (false && (l.take k).all (bitB set))) (fun _ i => m - (RowKit.intOf i).toNat)
        case atStart => exact ⟨0, false, Nat.zero_le _, rfl, rfl, by simp⟩
        case round =>
          obtain ⟨k, b, hk, rfl, rfl, hb⟩ := hrel
          have Hb := Lib.hid hb
          clear hb
          rcases Nat.lt_or_ge k m with hlt | hge
          · obtain ⟨zb, zo, rfl, hzb, hzc⟩ := hz5.at_ (by omega)
            have hkl : k < l.length := by rw [Hlm.out]; exact hlt
            have z1 := hzc k hkl
            have hall : (false && (l.take (k + 1)).all (bitB set)) = (b && bitB set l[k]) := by
              rw [Hb.out, List.take_add_one, List.all_append, List.getElem?_eq_getElem hkl]
              simp
            have Hall := Lib.hid hall
            clear hzc hall
            generalize l[k] = t at z1 Hall
            rcases b with _ | _
            · go_wp2_with fail
              go_round
              case rel => exact ⟨k + 1, false, by omega, by go_num, rfl, by rw [Hall.out]; rfl⟩
              case measure => simp [RowKit.intOf]; omega
            · go_wp2_with (go_at_call 23; refine (class_Has _ _ _).mono ?_; rintro e w' ⟨rfl, rfl⟩)
              go_round
              case rel => exact ⟨k + 1, _, by omega, by go_num, rfl, by rw [Hall.out]; rfl⟩
              case measure => simp [RowKit.intOf]; omega
          · have hfb : f = b := by rw [Hb0.out, Hb.out, List.take_of_length_le (by rw [Hlm.out]; exact hge)]
            subst hfb
            rcases f with _ | _
            · go_wp2_with fail
              all_goals (go_ret; exact ⟨rfl, hi5⟩)
            · go_wp2_with fail
              all_goals (go_ret; exact ⟨rfl, hi5⟩)
      · have hb0 : f = (true && l.all (bitB set)) := by rw [Hf.out]; simp [kindB]; intro h; rw [beq_iff_eq] at hpar; omega
        have Hb0 := Lib.hid hb0
        clear hb0 Hf
        go_upto_region 9 with fail
        go_loop [10, 11] (fun v i => ∃ (k : Nat) (b : Bool), k ≤ m ∧ i = .int .i64 (k : Int) ∧ v = .bool b ∧ b = (true && (l.take k).all (bitB set))) (fun _ i => m - (RowKit.intOf i).toNat)
        case atStart => exact ⟨0, true, Nat.zero_le _, rfl, rfl, by simp⟩
        case round =>
          obtain ⟨k, b, hk, rfl, rfl, hb⟩ := hrel
          have Hb := Lib.hid hb
          clear hb
          rcases Nat.lt_or_ge k m with hlt | hge
          · obtain ⟨zb, zo, rfl, hzb, hzc⟩ := hz5.at_ (by omega)
            have hkl : k < l.length := by rw [Hlm.out]; exact hlt
            have z1 := hzc k hkl
            have hall : (true && (l.take (k + 1)).all (bitB set)) = (b && bitB set l[k]) := by
              rw [Hb.out, List.take_add_one, List.all_append, List.getElem?_eq_getElem hkl]
              simp
            have Hall := Lib.hid hall
            clear hzc hall
            generalize l[k] = t at z1 Hall
            rcases b with _ | _
            · go_wp2_with fail
              go_round
              case rel => exact ⟨k + 1, false, by omega, by go_num, rfl, by rw [Hall.out]; rfl⟩
              case measure => simp [RowKit.intOf]; omega
            · go_wp2_with (go_at_call 23; refine (class_Has _ _ _).mono ?_; rintro e w' ⟨rfl, rfl⟩)
              go_round
              case rel => exact ⟨k + 1, _, by omega, by go_num, rfl, by rw [Hall.out]; rfl⟩
              case measure => simp [RowKit.intOf]; omega
          · have hfb : f = b := by rw [Hb0.out, Hb.out, List.take_of_length_le (by rw [Hlm.out]; exact hge)]
            subst hfb
            rcases f with _ | _
            · go_wp2_with fail
              all_goals (go_ret; exact ⟨rfl, hi5⟩)
            · go_wp2_with fail
              all_goals (go_ret; exact ⟨rfl, hi5⟩)
end Go.Vir
