/- viramalaw09: PatternWhole. -/
import Derived.Test.YtiedahfminhnbaaGreatDoorWkZ
import Derived.Test.YtiedahfminhnbaaGreatDoorHelw
import Derived.BigQuiet
namespace Go.Vir
open Go Go.RowKit Go.Proofs Go.Shelf
attribute [local go_sem] Oper.semAt_some

theorem Prs.take {w : World} {B n : Nat} {A : Option Addr} {zs : List (Int × Int)} (h : Prs w B A n zs) (k : Nat) (hk : k ≤ n) : Prs w B A k (zs.take k) :=
  ⟨by rw [List.length_take, h.len]; omega, fun h0 => by
    obtain ⟨b, o, e, hb, hc⟩ := h.at_ (by omega)
    refine ⟨b, o, e, hb, fun j hj => ?_⟩
    rw [List.length_take] at hj
    have := hc j (by omega)
    simpa using this⟩

theorem Ints.sub {w : World} {Bd n c : Nat} {A : Option Addr} {zs : List Int} (h : Ints w Bd A n zs) (hc : n ≤ c) (i j : Nat) (hi : i ≤ j) (hj : j ≤ n) :
    Ints w Bd (if c = i then A else Option.map (fun x => x.add i) A) (j - i) (seg zs i j) := by
  have hl := h.len
  have hsl := seg_length zs i j hi (by omega)
  refine ⟨hsl, fun h0 => ?_⟩
  obtain ⟨b, o, rfl, hb, hcl⟩ := h.at_ (by omega)
  rw [if_neg (by omega)]
  refine ⟨b, o + i, ?_, hb, fun y hy => ?_⟩
  · simp only [Option.map_some, Addr.add]
    split
    · rename_i h1; rw [h1]; rfl
    · rfl
  · have h1 := hcl (i + y) (by omega)
    rw [show o + i + y = o + (i + y) by omega, h1]
    simp [seg]

theorem behind_any {st : Bool} {xs : List (Int × Int)} {zs : List Int} {k : Nat} (hk : k ≤ zs.length) :
    ((List.range (k + 1)).any fun i => fitsB xs (seg zs i k) && (!st || i == 0)) = behindB st xs zs (k : Int) := by
  unfold behindB fitsB
  rcases patB 32 xs with _ | _
  · simp
  · have h1 : decide ((0 : Int) ≤ (k : Int)) = true := by simp
    have h2 : decide ((k : Int) ≤ (zs.length : Int)) = true := by simpa using hk
    rw [h1, h2]
    rcases st with _ | _
    · simp
    · rw [Bool.eq_iff_iff]
      simp only [Bool.true_and, Bool.not_true, Bool.false_or, List.any_eq_true, List.mem_range, Bool.and_eq_true, beq_iff_eq, if_true, Int.toNat_natCast]
      constructor
      · rintro ⟨i, _, h, rfl⟩; exact ⟨0, by omega, h⟩
      · rintro ⟨i, hi, h⟩; obtain rfl : i = 0 := by omega
        exact ⟨0, by omega, h, rfl⟩

theorem ahead_any {st : Bool} {xs : List (Int × Int)} {zs : List Int} {k : Nat} (hk : k ≤ zs.length) :
    ((List.range (zs.length + 1)).any fun j => decide (k ≤ j) && (fitsB xs (seg zs k j) && (!st || k == 0))) = aheadB st xs zs (k : Int) := by
  unfold aheadB fitsB
  rcases patB 32 xs with _ | _
  · simp
  · have h1 : decide ((0 : Int) ≤ (k : Int)) = true := by simp
    have h2 : decide ((k : Int) ≤ (zs.length : Int)) = true := by simpa using hk
    have h3 : (!(st && decide ((0 : Int) < (k : Int)))) = (!st || k == 0) := by
      rcases st with _ | _
      · rfl
      · rw [Bool.eq_iff_iff]; simp
    rw [h1, h2, h3]
    rcases (!st || k == 0) with _ | _
    · simp
    · simp

set_option maxHeartbeats 4000000 in
theorem law_whole (st : Bool) (A B : Option Addr) (m0 c0 n0 c1 : Nat) (xs0 : List (Int × Int)) (zs0 : List Int) (at_ : Int) (w : World) (hG : Globs w) (hx : Prs w w.heap.size A m0 xs0) (hz : Ints w w.heap.size B n0 zs0) (hc0 : m0 ≤ c0) (hc1 : n0 ≤ c1) :
    Calls Tryz.prog 4 #[.agg #[.bool st, .slice A m0 c0], .slice B n0 c1, .int .i64 at_] w fun e w' => e = .returned (.bool true) ∧ Below w.heap.size w w' := by
  go_enter Tryz.func4, Tryz.ntmps4
  go_wp2_with fail
  have hb0 : Below w.heap.size w (w.alloc (.cells #[.bool st, .slice A m0 c0] 24)) := by go_grown
  have k0 : (w.alloc (.cells #[.bool st, .slice A m0 c0] 24)).heap[w.heap.size]? = some (.cells #[.bool st, .slice A m0 c0] 24 (0, 0)) := heap_new rfl
  refine (law_shown _ (hG.below hb0)).mono ?_
  rintro e w1 ⟨rfl, hb1⟩
  have k1 := (hb1.block _ (Array.getElem?_eq_some_iff.1 k0).1).trans k0
  have hb2 : Below w.heap.size w w1 := hb0.trans (hb1.mono hb0.size)
  clear k0 hb0 hb1
  have c10 := cell_blk k1 0
  have c11 := cell_blk k1 1
  simp only [List.getElem?_toArray, List.getElem?_cons_zero, List.getElem?_cons_succ] at c10 c11
  have hC := law_Cut st A m0 c0 w1 hc0
  go_wp2_with fail
  refine hC.mono ?_
  rintro e w2 ⟨rfl, hb3⟩
  have k2 := (hb3.block _ (Array.getElem?_eq_some_iff.1 k1).1).trans k1
  have hb4 : Below w.heap.size w w2 := hb2.trans (hb3.mono hb2.size)
  have f0 := frozen_blk k2 0
  have f1 := frozen_blk k2 1
  have c20 := cell_blk k2 0
  have c21 := cell_blk k2 1
  simp only [List.getElem?_toArray, List.getElem?_cons_zero, List.getElem?_cons_succ] at c20 c21
  clear hb3 k1 c10 c11 hC hb2
  go_wp2_with fail
  refine (law_few B n0 c1 _ hc1).mono ?_
  rintro e w3' ⟨rfl, rfl⟩
  have k3 := setCell_blk (setCell_blk k2 0 (.bool st)) 1 (.slice A (min m0 12) c0)
  have hb5 : Below w.heap.size w ((w2.setCell ⟨w.heap.size, 0, none⟩ (.bool st)).setCell ⟨w.heap.size, 1, none⟩ (.slice A (min m0 12) c0)) := (hb4.setCell (p := ⟨w.heap.size, 0, none⟩) (Nat.le_refl _) _).setCell (p := ⟨w.heap.size, 1, none⟩) (Nat.le_refl _) _
  generalize ((w2.setCell ⟨w.heap.size, 0, none⟩ (.bool st)).setCell ⟨w.heap.size, 1, none⟩ (.slice A (min m0 12) c0)) = W at *
  have hxW := ((hx.below hb5).more hb5.size).take (min m0 12) (by omega)
  have hzW := ((hz.below hb5).more hb5.size).take (min n0 40) (by omega)
  have hm : min m0 12 ≤ 12 := by omega
  have hn : min n0 40 ≤ 40 := by omega
  have hnc : min n0 40 ≤ c1 := by omega
  generalize min m0 12 = m at *
  generalize min n0 40 = n at *
  generalize xs0.take m = xs at *
  generalize zs0.take n = zs at *
  have r3 : W.heap[w.heap.size]? = some (.cells #[.bool st, .slice A m c0] 24 (0, 0)) := k3
  have e0 : W.cell? ⟨w.heap.size, 0, none⟩ = some (.bool st) := cell_blk r3 0
  have e1 : W.cell? ⟨w.heap.size, 1, none⟩ = some (.slice A m c0) := cell_blk r3 1
  clear k2 k3 hb4 f0 f1 c20 c21 hc0 hc1 hx hz
  have hlt : w.heap.size < W.heap.size := (Array.getElem?_eq_some_iff.1 r3).1
  have hzl := hzW.len
  have hB := pattern_Behind st A B m c0 n c1 xs zs at_ W hxW hzW (by omega) (by omega) hnc
  rcases hneg : decide (at_ < 0) with _ | _
  rotate_left
  · have hBf : behindB st xs zs at_ = false := by
      have : ¬ (0 ≤ at_) := by have := of_decide_eq_true hneg; omega
      simp [behindB, this]
    have hAf : aheadB st xs zs at_ = false := by
      have : ¬ (0 ≤ at_) := by have := of_decide_eq_true hneg; omega
      simp [aheadB, this]
    rw [hBf] at hB
    go_wp2_with fail
    refine hB.mono ?_
    rintro e W2 ⟨rfl, hb6⟩
    have hA := pattern_Ahead st A B m c0 n c1 xs zs at_ W2 ((hxW.below hb6).more hb6.size) ((hzW.below hb6).more hb6.size) (by omega) (by omega)
    rw [hAf] at hA
    have q0 := (cellOf hb6 hlt).trans e0
    have q1 := (cellOf hb6 hlt).trans e1
    clear e0 e1 hB
    go_wp2_with fail
    refine hA.mono ?_
    rintro e W3 ⟨rfl, hb7⟩
    have hb8 : Below w.heap.size w W3 := hb5.trans ((hb6.trans (hb7.mono hb6.size)).mono hb5.size)
    clear hA hb6 hb7 q0 q1
    go_wp2_with fail
    go_ret
    exact ⟨rfl, hb8⟩
  rcases hbig : decide ((n : Int) < at_) with _ | _
  rotate_left
  · have hBf : behindB st xs zs at_ = false := by
      have : ¬ (at_ ≤ (zs.length : Int)) := by have := of_decide_eq_true hbig; omega
      simp [behindB, this]
    have hAf : aheadB st xs zs at_ = false := by
      have : ¬ (at_ ≤ (zs.length : Int)) := by have := of_decide_eq_true hbig; omega
      simp [aheadB, this]
    rw [hBf] at hB
    go_wp2_with fail
    refine hB.mono ?_
    rintro e W2 ⟨rfl, hb6⟩
    have hA := pattern_Ahead st A B m c0 n c1 xs zs at_ W2 ((hxW.below hb6).more hb6.size) ((hzW.below hb6).more hb6.size) (by omega) (by omega)
    rw [hAf] at hA
    have q0 := (cellOf hb6 hlt).trans e0
    have q1 := (cellOf hb6 hlt).trans e1
    clear e0 e1 hB
    go_wp2_with fail
    refine hA.mono ?_
    rintro e W3 ⟨rfl, hb7⟩
    have hb8 : Below w.heap.size w W3 := hb5.trans ((hb6.trans (hb7.mono hb6.size)).mono hb5.size)
    clear hA hb6 hb7 q0 q1
    go_wp2_with fail
    go_ret
    exact ⟨rfl, hb8⟩
  have h0 := of_decide_eq_false hneg
  have h1 := of_decide_eq_false hbig
  obtain ⟨k, rfl⟩ : ∃ k : Nat, at_ = (k : Int) := ⟨at_.toNat, by omega⟩
  have hk : k ≤ n := by omega
  clear h0 h1 hB
  have hfit : ∀ i, i ≤ k → ∀ W', Below W.heap.size W W' → Calls Tryz.prog 21 #[.agg #[.bool st, .slice A m c0], .slice (if c1 = i then B else Option.map (fun x => x.add i) B) (k - i) (c1 - i)] W' fun e w' => e = .returned (.bool (fitsB xs (seg zs i k))) ∧ Below W'.heap.size W' w' := fun i hi W' hW' =>
    pattern_Fits st A _ m c0 (k - i) (c1 - i) xs (seg zs i k) W' ((hxW.below hW').more hW'.size) (((hzW.below hW').more hW'.size).sub hnc i k hi hk) (by omega) (by omega)
  have Hfit := Lib.hid hfit
  clear hfit
  go_upto_region 9 with fail
  have hnk : decide (n < k) = false := by rw [decide_eq_false_iff_not]; omega
  rw [hnk]
  go_loopw [8, 10] (fun v i wr => ∃ (j : Nat) (b : Bool), j ≤ k + 1 ∧ i = .int .i64 (j : Int) ∧ v = .bool b ∧ b = ((List.range j).any fun i => fitsB xs (seg zs i k) && (!st || i == 0)) ∧ Below W.heap.size W wr) (fun _ i _ => k + 1 - (RowKit.intOf i).toNat)
  case atStart => exact ⟨0, false, Nat.zero_le _, rfl, rfl, rfl, Below.refl _ _⟩
  case round =>
    obtain ⟨j, b, hj, rfl, rfl, hb, hbr⟩ := hrel
    have Hb := Lib.hid hb
    have q0 := (cellOf hbr hlt).trans e0
    have q1 := (cellOf hbr hlt).trans e1
    clear hb
    rcases Nat.lt_or_ge j (k + 1) with hjk | hge
    · have hj2 : j ≤ k := by omega
      have hkc : k ≤ c1 := by omega
      have hjc : j ≤ c1 := by omega
      have s1 : (0 : Int) ≤ (j : Int) := by omega
      have s2 : (j : Int) ≤ (k : Int) := by omega
      have s3 : (k : Int) ≤ (c1 : Int) := by omega
      have hstep : ((List.range (j + 1)).any fun i => fitsB xs (seg zs i k) && (!st || i == 0)) = (b || (fitsB xs (seg zs j k) && (!st || j == 0))) := by
        rw [List.range_succ, List.any_append, Hb.out]; simp
      have Hstep := Lib.hid hstep
      clear hstep
      rcases b with _ | _
      · have hF := Hfit.out j hj2 wr.drew hbr.drew
        go_upto_region 11 with fail
        refine (wpIn_wide (n := 0)).1 ?_
        refine Go.Vir.Wide.wpIn_held_tail 7 (fun V => V.cell? ⟨w.heap.size, 0, none⟩ = some (.bool st) ∧ V.cell? ⟨w.heap.size, 1, none⟩ = some (.slice A m c0))
          (by kernel_rfl) (by kernel_rfl) (by kernel_rfl) rfl (by decide) (by kernel_rfl) (by kernel_rfl) (by kernel_rfl) ⟨q0, q1⟩ ?_
        simp only [List.take_succ_cons, List.take_zero]
        refine ⟨.bool false, .inl ⟨rfl, fun V hV => by obtain ⟨c0, c1⟩ := hV; go_simp⟩, ?_⟩
        try simp only [Act.put, List.setIfInBounds_toArray, List.set_cons_zero, List.set_cons_succ]
        refine ⟨.bool false, .inl ⟨rfl, fun V hV => by obtain ⟨c0, c1⟩ := hV; go_simp⟩, ?_⟩
        try simp only [Act.put, List.setIfInBounds_toArray, List.set_cons_zero, List.set_cons_succ]
        refine ⟨.agg #[.bool st, .slice A m c0], .inl ⟨rfl, fun V hV => by obtain ⟨c0, c1⟩ := hV; go_simp⟩, ?_⟩
        try simp only [Act.put, List.setIfInBounds_toArray, List.set_cons_zero, List.set_cons_succ]
        refine ⟨.slice B n c1, .inl ⟨rfl, fun V hV => by obtain ⟨c0, c1⟩ := hV; go_simp⟩, ?_⟩
        try simp only [Act.put, List.setIfInBounds_toArray, List.set_cons_zero, List.set_cons_succ]
        refine ⟨.int .i64 (j : Int), .inl ⟨rfl, fun V hV => by obtain ⟨c0, c1⟩ := hV; go_simp⟩, ?_⟩
        try simp only [Act.put, List.setIfInBounds_toArray, List.set_cons_zero, List.set_cons_succ]
        refine ⟨.int .i64 (k : Int), .inl ⟨rfl, fun V hV => by obtain ⟨c0, c1⟩ := hV; go_simp⟩, ?_⟩
        try simp only [Act.put, List.setIfInBounds_toArray, List.set_cons_zero, List.set_cons_succ]
        refine ⟨.slice (if c1 = j then B else Option.map (fun x => x.add j) B) (k - j) (c1 - j), .inl ⟨rfl, fun V hV => by obtain ⟨c0, c1⟩ := hV; go_simp⟩, ?_⟩
        try simp only [Act.put, List.setIfInBounds_toArray, List.set_cons_zero, List.set_cons_succ]
        refine ⟨rfl, ?_⟩
        go_simp
        refine ⟨trivial, rfl, callsIn_wide.2 (hF.mono ?_)⟩
        generalize (if c1 = j then B else Option.map (fun x => x.add j) B) = B'
        rintro e w3 ⟨rfl, hb9⟩
        have t2 : Below W.heap.size W w3 := (hbr.drew).trans (hb9.mono hbr.size)
        have t0 := (cellOf t2 hlt).trans e0
        have t1 := (cellOf t2 hlt).trans e1
        refine ⟨⟨t0, t1⟩, ?_⟩
        clear hF q0 q1 hb9 hbr
        have Hs2 := Hstep.out
        generalize fitsB xs (seg zs j k) = bf at *
        clear Hstep
        rcases bf with _ | _
        · have Hs3 := Lib.hid Hs2
          clear Hs2
          gi_wp2
          go_wp2
          go_roundw
          case rel => first | exact ⟨j + 1, _, by omega, by go_num, rfl, by rw [Hs3.out]; rfl, t2⟩ | ((repeat apply Exists.intro); refine And.intro ?_ rfl; exact ⟨j + 1, _, by omega, by go_num, rfl, by rw [Hs3.out]; rfl, t2⟩)
          case measure => simp [RowKit.intOf]; omega
        · rcases st with _ | _
          · have Hs3 := Lib.hid Hs2
            clear Hs2
            gi_wp2
            go_wp2
            go_roundw
            case rel => first | exact ⟨j + 1, _, by omega, by go_num, rfl, by rw [Hs3.out]; rfl, t2⟩ | ((repeat apply Exists.intro); refine And.intro ?_ rfl; exact ⟨j + 1, _, by omega, by go_num, rfl, by rw [Hs3.out]; rfl, t2⟩)
            case measure => simp [RowKit.intOf]; omega
          · rcases hz0 : ((j : Int) == 0) with _ | _
            · have hz1 : (j == 0) = false := by rw [beq_eq_false_iff_ne] at hz0 ⊢; omega
              rw [hz1] at Hs2
              have Hs3 := Lib.hid Hs2
              clear Hs2
              gi_wp2
              go_wp2
              go_roundw
              case rel => first | exact ⟨j + 1, _, by omega, by go_num, rfl, by rw [Hs3.out]; rfl, t2⟩ | ((repeat apply Exists.intro); refine And.intro ?_ rfl; exact ⟨j + 1, _, by omega, by go_num, rfl, by rw [Hs3.out]; rfl, t2⟩)
              case measure => simp [RowKit.intOf]; omega
            · have hz1 : (j == 0) = true := by rw [beq_iff_eq] at hz0 ⊢; omega
              rw [hz1] at Hs2
              have Hs3 := Lib.hid Hs2
              clear Hs2
              gi_wp2
              go_wp2
              go_roundw
              case rel => first | exact ⟨j + 1, _, by omega, by go_num, rfl, by rw [Hs3.out]; rfl, t2⟩ | ((repeat apply Exists.intro); refine And.intro ?_ rfl; exact ⟨j + 1, _, by omega, by go_num, rfl, by rw [Hs3.out]; rfl, t2⟩)
              case measure => simp [RowKit.intOf]; omega
      · have Hs3 := Hstep
        go_upto_region 11 with fail
        go_quiet (fail)
        go_wp2
        go_roundw
        case rel => first | exact ⟨j + 1, _, by omega, by go_num, rfl, by rw [Hs3.out]; rfl, hbr.trans (below_drewN _ _ _)⟩ | ((repeat apply Exists.intro); refine And.intro ?_ rfl; exact ⟨j + 1, _, by omega, by go_num, rfl, by rw [Hs3.out]; rfl, hbr.trans (below_drewN _ _ _)⟩)
        case measure => simp [RowKit.intOf]; omega
    · obtain rfl : j = k + 1 := by omega
      rw [behind_any (by omega : k ≤ zs.length)] at Hb
      go_upto_region 13 with fail
      clear Hfit q0 q1 hj hge
      generalize ((k + 1 : Nat) : Int) = kk
      generalize decide ((k : Int) + 1 ≤ (k : Int)) = dd
      have hfit2 : ∀ j, k ≤ j → j ≤ n → ∀ W', Below W.heap.size W W' → Calls Tryz.prog 21 #[.agg #[.bool st, .slice A m c0], .slice (if c1 = k then B else Option.map (fun x => x.add k) B) (j - k) (c1 - k)] W' fun e w' => e = .returned (.bool (fitsB xs (seg zs k j))) ∧ Below W'.heap.size W' w' := fun j hkj hjn W' hW' =>
        pattern_Fits st A _ m c0 (j - k) (c1 - k) xs (seg zs k j) W' ((hxW.below hW').more hW'.size) (((hzW.below hW').more hW'.size).sub hnc k j hkj hjn) (by omega) (by omega)
      have Hfit2 := Lib.hid hfit2
      have Hb1 := Hb
      clear hfit2 Hb
      have hbr0 := hbr
      clear hbr
      go_loopw [9, 11] (fun v i wr => ∃ (j : Nat) (b : Bool), k ≤ j ∧ j ≤ n + 1 ∧ i = .int .i64 (j : Int) ∧ v = .bool b ∧ b = ((List.range j).any fun i => decide (k ≤ i) && (fitsB xs (seg zs k i) && (!st || k == 0))) ∧ Below W.heap.size W wr) (fun _ i _ => n + 1 - (RowKit.intOf i).toNat)
      case atStart =>
        refine ⟨k, false, Nat.le_refl _, by omega, rfl, rfl, ?_, hbr0⟩
        symm
        rw [List.any_eq_false]
        intro x hx
        have : ¬ (k ≤ x) := by have := List.mem_range.1 hx; omega
        simp [this]
      case round =>
        obtain ⟨j, b, hjk0, hj, rfl, rfl, hb, hbr⟩ := hrel
        have Hb := Lib.hid hb
        have q0 := (cellOf hbr hlt).trans e0
        have q1 := (cellOf hbr hlt).trans e1
        clear hb
        rcases Nat.lt_or_ge j (n + 1) with hjk | hge
        · have hj2 : j ≤ n := by omega
          have hj3 : k ≤ j := by omega
          have hkc : k ≤ c1 := by omega
          have hjc : j ≤ c1 := by omega
          have hkj : decide (k ≤ j) = true := by rw [decide_eq_true_eq]; omega
          have s1 : (0 : Int) ≤ (k : Int) := by omega
          have s2 : (k : Int) ≤ (j : Int) := by omega
          have s3 : (j : Int) ≤ (c1 : Int) := by omega
          have hstep : ((List.range (j + 1)).any fun i => decide (k ≤ i) && (fitsB xs (seg zs k i) && (!st || k == 0))) = (b || (fitsB xs (seg zs k j) && (!st || k == 0))) := by
            rw [List.range_succ, List.any_append, Hb.out]; simp [hkj]
          have Hstep := Lib.hid hstep
          clear hstep
          rcases b with _ | _
          · have hF := Hfit2.out j hj3 hj2 wr.drew hbr.drew
            go_upto_region 15 with fail
            refine (wpIn_wide (n := 0)).1 ?_
            refine Go.Vir.Wide.wpIn_held_tail 7 (fun V => V.cell? ⟨w.heap.size, 0, none⟩ = some (.bool st) ∧ V.cell? ⟨w.heap.size, 1, none⟩ = some (.slice A m c0))
              (by kernel_rfl) (by kernel_rfl) (by kernel_rfl) rfl (by decide) (by kernel_rfl) (by kernel_rfl) (by kernel_rfl) ⟨q0, q1⟩ ?_
            simp only [List.take_succ_cons, List.take_zero]
            refine ⟨.bool false, .inl ⟨rfl, fun V hV => by obtain ⟨c0, c1⟩ := hV; go_simp⟩, ?_⟩
            try simp only [Act.put, List.setIfInBounds_toArray, List.set_cons_zero, List.set_cons_succ]
            refine ⟨.bool false, .inl ⟨rfl, fun V hV => by obtain ⟨c0, c1⟩ := hV; go_simp⟩, ?_⟩
            try simp only [Act.put, List.setIfInBounds_toArray, List.set_cons_zero, List.set_cons_succ]
            refine ⟨.agg #[.bool st, .slice A m c0], .inl ⟨rfl, fun V hV => by obtain ⟨c0, c1⟩ := hV; go_simp⟩, ?_⟩
            try simp only [Act.put, List.setIfInBounds_toArray, List.set_cons_zero, List.set_cons_succ]
            refine ⟨.slice B n c1, .inl ⟨rfl, fun V hV => by obtain ⟨c0, c1⟩ := hV; go_simp⟩, ?_⟩
            try simp only [Act.put, List.setIfInBounds_toArray, List.set_cons_zero, List.set_cons_succ]
            refine ⟨.int .i64 (k : Int), .inl ⟨rfl, fun V hV => by obtain ⟨c0, c1⟩ := hV; go_simp⟩, ?_⟩
            try simp only [Act.put, List.setIfInBounds_toArray, List.set_cons_zero, List.set_cons_succ]
            refine ⟨.int .i64 (j : Int), .inl ⟨rfl, fun V hV => by obtain ⟨c0, c1⟩ := hV; go_simp⟩, ?_⟩
            try simp only [Act.put, List.setIfInBounds_toArray, List.set_cons_zero, List.set_cons_succ]
            refine ⟨.slice (if c1 = k then B else Option.map (fun x => x.add k) B) (j - k) (c1 - k), .inl ⟨rfl, fun V hV => by obtain ⟨c0, c1⟩ := hV; go_simp⟩, ?_⟩
            try simp only [Act.put, List.setIfInBounds_toArray, List.set_cons_zero, List.set_cons_succ]
            refine ⟨rfl, ?_⟩
            go_simp
            refine ⟨trivial, rfl, callsIn_wide.2 (hF.mono ?_)⟩
            generalize (if c1 = k then B else Option.map (fun x => x.add k) B) = B'
            rintro e w3 ⟨rfl, hb9⟩
            have t2 : Below W.heap.size W w3 := (hbr.drew).trans (hb9.mono hbr.size)
            have t0 := (cellOf t2 hlt).trans e0
            have t1 := (cellOf t2 hlt).trans e1
            refine ⟨⟨t0, t1⟩, ?_⟩
            clear hF q0 q1 hb9 hbr
            have Hs2 := Hstep.out
            generalize fitsB xs (seg zs k j) = bf at *
            clear Hstep
            rcases bf with _ | _
            · have Hs3 := Lib.hid Hs2
              clear Hs2
              gi_wp2
              go_wp2
              go_roundw
              case rel => first | exact ⟨j + 1, _, by omega, by omega, by go_num, rfl, by rw [Hs3.out]; rfl, t2⟩ | ((repeat apply Exists.intro); refine And.intro ?_ rfl; exact ⟨j + 1, _, by omega, by omega, by go_num, rfl, by rw [Hs3.out]; rfl, t2⟩)
              case measure => simp [RowKit.intOf]; omega
            · rcases st with _ | _
              · have Hs3 := Lib.hid Hs2
                clear Hs2
                gi_wp2
                go_wp2
                go_roundw
                case rel => first | exact ⟨j + 1, _, by omega, by omega, by go_num, rfl, by rw [Hs3.out]; rfl, t2⟩ | ((repeat apply Exists.intro); refine And.intro ?_ rfl; exact ⟨j + 1, _, by omega, by omega, by go_num, rfl, by rw [Hs3.out]; rfl, t2⟩)
                case measure => simp [RowKit.intOf]; omega
              · rcases hz0 : ((k : Int) == 0) with _ | _
                · have hz1 : (k == 0) = false := by rw [beq_eq_false_iff_ne] at hz0 ⊢; omega
                  have Hs3 := Lib.hid Hs2
                  clear Hs2
                  gi_wp2
                  go_wp2
                  go_roundw
                  case rel => first | exact ⟨j + 1, _, by omega, by omega, by go_num, rfl, by rw [Hs3.out, hz1]; rfl, t2⟩ | ((repeat apply Exists.intro); refine And.intro ?_ rfl; exact ⟨j + 1, _, by omega, by omega, by go_num, rfl, by rw [Hs3.out, hz1]; rfl, t2⟩)
                  case measure => simp [RowKit.intOf]; omega
                · have hz1 : (k == 0) = true := by rw [beq_iff_eq] at hz0 ⊢; omega
                  have Hs3 := Lib.hid Hs2
                  clear Hs2
                  gi_wp2
                  go_wp2
                  go_roundw
                  case rel => first | exact ⟨j + 1, _, by omega, by omega, by go_num, rfl, by rw [Hs3.out, hz1]; rfl, t2⟩ | ((repeat apply Exists.intro); refine And.intro ?_ rfl; exact ⟨j + 1, _, by omega, by omega, by go_num, rfl, by rw [Hs3.out, hz1]; rfl, t2⟩)
                  case measure => simp [RowKit.intOf]; omega
          · have Hs3 := Hstep
            go_upto_region 15 with fail
            go_quiet (fail)
            go_wp2
            go_roundw
            case rel => first | exact ⟨j + 1, _, by omega, by omega, by go_num, rfl, by rw [Hs3.out]; rfl, hbr.trans (below_drewN _ _ _)⟩ | ((repeat apply Exists.intro); refine And.intro ?_ rfl; exact ⟨j + 1, _, by omega, by omega, by go_num, rfl, by rw [Hs3.out]; rfl, hbr.trans (below_drewN _ _ _)⟩)
            case measure => simp [RowKit.intOf]; omega
        · obtain rfl : j = n + 1 := by omega
          have hb2 := Hb.out
          rw [← hzl, ahead_any (by omega : k ≤ zs.length)] at hb2
          have hb1 := Hb1.out
          have hB := pattern_Behind st A B m c0 n c1 xs zs (k : Int) _ ((hxW.below hbr).more hbr.size) ((hzW.below hbr).more hbr.size) (by omega) (by omega) hnc
          rw [← hb1] at hB
          have hA := fun W' hW' => pattern_Ahead st A B m c0 n c1 xs zs (k : Int) W' ((hxW.below hW').more hW'.size) ((hzW.below hW').more hW'.size) (by omega) (by omega)
          rw [← hb2] at hA
          have HA := Lib.hid hA
          clear hb1 hb2 Hb Hb1 hA
          go_wp2_with fail
          refine hB.mono ?_
          rintro e W5 ⟨rfl, hb9⟩
          have t2 : Below W.heap.size W W5 := hbr.trans (hb9.mono hbr.size)
          have t0 := (cellOf t2 hlt).trans e0
          have t1 := (cellOf t2 hlt).trans e1
          have hA := HA.out W5 t2
          clear HA hB q0 q1 hb9 hbr
          go_wp2_with fail
          refine hA.mono ?_
          rintro e W6 ⟨rfl, hb10⟩
          have t3 : Below W.heap.size W W6 := t2.trans (hb10.mono t2.size)
          clear hA hb10 t0 t1 t2
          go_wp2_with fail
          go_ret
          exact ⟨rfl, hb5.trans (t3.mono hb5.size)⟩
end Go.Vir
