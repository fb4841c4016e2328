/- Items are compared. -/
import Derived.Test.YtpjhjjkkbbmnjaaGreatDoorSub
import Derived.Laws.StructEq
namespace Go.Vir
open Go Go.RowKit Go.Proofs Go.Shelf
attribute [local go_sem] Oper.semAt_some

theorem item_stood : Program.stoodInHeld Tryz.prog 70 = false := by kernel_rfl
theorem item_neq (a b c d : Int) (w : World) : (binOp .neq 70 (.agg #[.int .i64 a, .int .i64 b]) (.agg #[.int .i64 c, .int .i64 d])).run Tryz.prog w = .ok (.bool (!(a == c && b == d))) w := by
  rw [run_neq_struct, show (10000 : Nat) = 9998 + 1 + 1 from rfl, run_equalIn_agg w _ 70 _ _ (by simp only [Program.fieldsOf, Tryz.underlying70]) item_stood]
  simp only [Program.fieldsOf, Tryz.underlying70]
  cases h1 : (a == c)
  · simp [go_sem, Op.eqFields, h1, Tryz.underlying2, Tryz.underlying3]
  · by_cases h2 : b = d <;> simp [go_sem, Op.eqFields, h1, h2, Tryz.underlying2, Tryz.underlying3]

theorem list_next {xs ys : List (Int × Int)} {k : Nat} (hx : k < xs.length) (hy : k < ys.length) (h : xs.take k = ys.take k) (he : xs[k] = ys[k]) : xs.take (k + 1) = ys.take (k + 1) := by
  rw [List.take_succ_eq_append_getElem hx, List.take_succ_eq_append_getElem hy, h, he]

set_option maxHeartbeats 4000000 in
theorem equal_items (A A2 : Option Addr) (m c m2 c2 : Nat) (xs ys : List (Int × Int)) (w : World) (hx : Prs w w.heap.size A m xs) (hy : Prs w w.heap.size A2 m2 ys) (hm : m ≤ 1000) (hm2 : m2 ≤ 1000) :
    Calls Tryz.prog 71 #[.slice A m c, .slice A2 m2 c2] w fun e w' => e = .returned (.bool (decide (xs = ys))) ∧ Below w.heap.size w w' := by
  have hxl := hx.len
  have hyl := hy.len
  rcases hne : ((m : Int) != (m2 : Int)) with _ | _
  rotate_left
  · have hd : decide (xs = ys) = false := by
      rw [decide_eq_false_iff_not]
      rintro rfl
      rw [bne_iff_ne] at hne
      omega
    rw [hd]
    go_enter Tryz.func71, Tryz.ntmps71
    go_wp2_with fail
    go_ret
    exact ⟨rfl, Below.refl _ _⟩
  · have hmm : m = m2 := by
      have : ¬ ((m : Int) ≠ (m2 : Int)) := by rw [← bne_iff_ne, hne]; simp
      omega
    subst hmm
    generalize hV : decide (xs = ys) = V
    have HV := Lib.hid hV
    clear hV
    go_enter Tryz.func71, Tryz.ntmps71
    go_upto_region 4 with fail
    have Hxl := Lib.hid hxl
    have Hyl := Lib.hid hyl
    clear hxl hyl
    go_loopw [5, 13] (fun _ i wr => ∃ k : Nat, k ≤ m ∧ i = .int .i64 (k : Int) ∧ xs.take k = ys.take k ∧ Below w.heap.size w wr) (fun _ i _ => m - (RowKit.intOf i).toNat)
    case atStart => exact ⟨0, Nat.zero_le _, rfl, by simp, Below.refl _ _⟩
    case round =>
      obtain ⟨k, hk, rfl, htk, hbr⟩ := hrel
      have Htk := Lib.hid htk
      clear htk
      rcases Nat.lt_or_ge k m with hkm | hge
      · obtain ⟨b1, o1, rfl, hb1, hc1⟩ := hx.at_ (by omega)
        obtain ⟨b2, o2, rfl, hb2, hc2⟩ := hy.at_ (by omega)
        have hkx : k < xs.length := by rw [Hxl.out]; exact hkm
        have hky : k < ys.length := by rw [Hyl.out]; exact hkm
        have u0 := (cellOf hbr hb1).trans (hc1 k hkx).1
        have u1 := (cellOf hbr hb1).trans (hc1 k hkx).2
        have v0 := (cellOf hbr hb2).trans (hc2 k hky).1
        have v1 := (cellOf hbr hb2).trans (hc2 k hky).2
        have hnx := list_next hkx hky Htk.out
        have hno : xs[k] ≠ ys[k] → V = false := fun h => by
          rw [← HV.out, decide_eq_false_iff_not]
          rintro rfl
          exact h rfl
        have Hnx := Lib.hid hnx
        have Hno := Lib.hid hno
        clear hc1 hc2 hnx hno
        generalize xs[k] = x at *
        generalize ys[k] = y at *
        obtain ⟨x1, x2⟩ := x
        obtain ⟨y1, y2⟩ := y
        simp only at u0 u1 v0 v1
        obtain ⟨E, hE⟩ : ∃ E : Bool, E = (x1 == y1 && x2 == y2) := ⟨_, rfl⟩
        have hq : ∀ w, (binOp .neq 70 (.agg #[.int .i64 x1, .int .i64 x2]) (.agg #[.int .i64 y1, .int .i64 y2])).run Tryz.prog w = .ok (.bool (!E)) w := fun w => by rw [hE]; exact item_neq x1 x2 y1 y2 w
        have HE := Lib.hid hE
        clear hE
        go_upto_region 6 with fail
        go_quiet (fail)
        clear hq u0 u1 v0 v1
        have hbq : Below w.heap.size w (wr.drewN nq) := hbr.trans (below_drewN _ _ _)
        rcases E with _ | _
        · have hv := Hno.out (by rintro ⟨rfl, rfl⟩; have := HE.out; simp at this)
          have Hv := Lib.hid hv
          clear hv
          go_wp2_with fail
          go_ret
          exact ⟨ret_bool Hv.out.symm, hbq⟩
        · have hxy := Hnx.out (by have := HE.out; simp at this; rw [this.1, this.2])
          have Hxy := Lib.hid hxy
          clear hxy
          go_wp2_with fail
          go_roundw
          case rel => exact ⟨k + 1, by omega, by go_num, Hxy.out, hbq⟩
          case measure => simp [RowKit.intOf]; omega
      · have hv : V = true := by
          rw [← HV.out, decide_eq_true_eq]
          have := Htk.out
          rwa [List.take_of_length_le (by rw [Hxl.out]; exact hge), List.take_of_length_le (by rw [Hyl.out]; exact hge)] at this
        have Hv := Lib.hid hv
        clear hv
        go_wp2_with fail
        go_ret
        exact ⟨ret_bool Hv.out.symm, hbr⟩

/-- P9.1: two patterns are the same. -/
def sameB (st st2 : Bool) (xs ys : List (Int × Int)) : Bool := (st == st2) && decide (xs = ys)

set_option maxHeartbeats 1000000 in
theorem pattern_Same (st st2 : Bool) (A A2 : Option Addr) (m c m2 c2 : Nat) (xs ys : List (Int × Int)) (w : World) (hx : Prs w w.heap.size A m xs) (hy : Prs w w.heap.size A2 m2 ys) (hm : m ≤ 1000) (hm2 : m2 ≤ 1000) :
    Calls Tryz.prog 31 #[.agg #[.bool st, .slice A m c], .agg #[.bool st2, .slice A2 m2 c2]] w fun e w' => e = .returned (.bool (sameB st st2 xs ys)) ∧ Below w.heap.size w w' := by
  have he := fun W (hW : Below w.heap.size w W) => equal_items A A2 m c m2 c2 xs ys W ((hx.below hW).more hW.size) ((hy.below hW).more hW.size) hm hm2
  have He := Lib.hid he
  clear he hx hy
  generalize hV : sameB st st2 xs ys = V
  have HV := Lib.hid hV
  clear hV
  rcases hs : (st == st2) with _ | _
  · have hv : V = false := by rw [← HV.out, sameB, hs]; rfl
    have Hv := Lib.hid hv
    clear hv
    go_enter Tryz.func31, Tryz.ntmps31
    go_wp2_with fail
    go_ret
    exact ⟨ret_bool Hv.out.symm, by go_grown⟩
  · have hv : V = decide (xs = ys) := by rw [← HV.out, sameB, hs]; rfl
    have Hv := Lib.hid hv
    clear hv
    go_enter Tryz.func31, Tryz.ntmps31
    go_wp2_with fail
    refine (He.out _ (by go_grown)).mono ?_
    rintro e w1 ⟨rfl, hb1⟩
    have hb2 : Below w.heap.size w w1 := Below.trans (by go_grown) (hb1.mono (by simp; omega))
    go_wp2_with fail
    go_ret
    exact ⟨ret_bool Hv.out.symm, hb2⟩

set_option maxRecDepth 100000 in
set_option maxHeartbeats 4000000 in
theorem ref_Same (st st2 : Bool) (A A2 : Option Addr) (m c m2 c2 : Nat) (xs ys : List (Int × Int)) (w : World) (hx : Prs w w.heap.size A m xs) (hy : Prs w w.heap.size A2 m2 ys) (hm : m ≤ 1000) (hm2 : m2 ≤ 1000) :
    Calls Tryz.prog 21 #[.agg #[.bool st, .slice A m c], .agg #[.bool st2, .slice A2 m2 c2]] w fun e w' => e = .returned (.bool (sameB st st2 xs ys)) ∧ Below w.heap.size w w' := by
  have Hxl := Lib.hid hx.len
  have Hyl := Lib.hid hy.len
  generalize hV : sameB st st2 xs ys = V
  have HV := Lib.hid hV
  clear hV
  rcases (show st = st2 ∨ (st = false ∧ st2 = true) ∨ (st = true ∧ st2 = false) by cases st <;> cases st2 <;> simp) with rfl | hs
  rotate_left
  · have hv : V = false := by
      rw [← HV.out, sameB]
      rcases hs with ⟨rfl, rfl⟩ | ⟨rfl, rfl⟩ <;> rfl
    have Hv := Lib.hid hv
    clear hv
    rcases hs with ⟨rfl, rfl⟩ | ⟨rfl, rfl⟩
    all_goals
      go_enter Tryz.func21, Tryz.ntmps21
      go_wp2_with fail
      go_ret
      exact ⟨ret_bool Hv.out.symm, by go_grown⟩
  · have hv : V = decide (xs = ys) := by rw [← HV.out, sameB]; simp
    have Hv := Lib.hid hv
    clear hv
    rcases hne : ((m : Int) != (m2 : Int)) with _ | _
    rotate_left
    · have hd : V = false := by
        rw [Hv.out, decide_eq_false_iff_not]
        rintro rfl
        rw [bne_iff_ne] at hne
        have := Hxl.out
        have := Hyl.out
        omega
      have Hd := Lib.hid hd
      clear hd
      go_enter Tryz.func21, Tryz.ntmps21
      go_wp2_with fail
      go_ret
      exact ⟨ret_bool Hd.out.symm, by go_grown⟩
    · have hmm : m = m2 := by
        have : ¬ ((m : Int) ≠ (m2 : Int)) := by rw [← bne_iff_ne, hne]; simp
        omega
      subst hmm
      have hbx : Below w.heap.size w ((w.alloc (.cells #[.bool st, .slice A m c] 24)).alloc (.cells #[.bool st, .slice A2 m c2] 24)) := by go_grown
      have k0 : ((w.alloc (.cells #[.bool st, .slice A m c] 24)).alloc (.cells #[.bool st, .slice A2 m c2] 24)).heap[w.heap.size]? = some (.cells #[.bool st, .slice A m c] 24 (0, 0)) := by rw [heap_old (by simp)]; exact heap_new rfl
      have k1 : ((w.alloc (.cells #[.bool st, .slice A m c] 24)).alloc (.cells #[.bool st, .slice A2 m c2] 24)).heap[w.heap.size + 1]? = some (.cells #[.bool st, .slice A2 m c2] 24 (0, 0)) := heap_new (by simp)
      go_enter Tryz.func21, Tryz.ntmps21
      go_wp2_with fail
      generalize ((w.alloc (.cells #[.bool st, .slice A m c] 24)).alloc (.cells #[.bool st, .slice A2 m c2] 24)) = W0 at *
      have l1 := (Array.getElem?_eq_some_iff.1 k1).1
      have l0 := (Array.getElem?_eq_some_iff.1 k0).1
      have e0 : W0.cell? ⟨w.heap.size, 1, none⟩ = some (.slice A m c) := cell_blk k0 1
      have e1 : W0.cell? ⟨w.heap.size + 1, 1, none⟩ = some (.slice A2 m c2) := cell_blk k1 1
      clear k0 k1
      go_loopw [5] (fun i wr => ∃ k : Nat, k ≤ m ∧ i = .int .i64 (k : Int) ∧ xs.take k = ys.take k ∧ Below W0.heap.size W0 wr) (fun i _ => m - (RowKit.intOf i).toNat)
      case atStart => exact ⟨0, Nat.zero_le _, rfl, by simp, Below.refl _ _⟩
      case round =>
        obtain ⟨k, hk, rfl, htk, hbq⟩ := hrel
        have Htk := Lib.hid htk
        clear htk
        have f0 := (cellOf hbq l0).trans e0
        have f1 := (cellOf hbq l1).trans e1
        have hbr := hbx.trans (hbq.mono hbx.size)
        rcases Nat.lt_or_ge k m with hkm | hge
        · obtain ⟨b1, o1, rfl, hb1, hc1⟩ := hx.at_ (by omega)
          obtain ⟨b2, o2, rfl, hb2, hc2⟩ := hy.at_ (by omega)
          have hkx : k < xs.length := by rw [Hxl.out]; exact hkm
          have hky : k < ys.length := by rw [Hyl.out]; exact hkm
          have u0 := (cellOf hbr hb1).trans (hc1 k hkx).1
          have u1 := (cellOf hbr hb1).trans (hc1 k hkx).2
          have v0 := (cellOf hbr hb2).trans (hc2 k hky).1
          have v1 := (cellOf hbr hb2).trans (hc2 k hky).2
          have hnx := list_next hkx hky Htk.out
          have hno : xs[k] ≠ ys[k] → V = false := fun h => by
            rw [Hv.out, decide_eq_false_iff_not]
            rintro rfl
            exact h rfl
          have Hnx := Lib.hid hnx
          have Hno := Lib.hid hno
          clear hc1 hc2 hnx hno
          generalize xs[k] = x at *
          generalize ys[k] = y at *
          obtain ⟨x1, x2⟩ := x
          obtain ⟨y1, y2⟩ := y
          simp only at u0 u1 v0 v1
          obtain ⟨E, hE⟩ : ∃ E : Bool, E = (x1 == y1 && x2 == y2) := ⟨_, rfl⟩
          have hq : ∀ w, (binOp .neq 70 (.agg #[.int .i64 x1, .int .i64 x2]) (.agg #[.int .i64 y1, .int .i64 y2])).run Tryz.prog w = .ok (.bool (!E)) w := fun w => by rw [hE]; exact item_neq x1 x2 y1 y2 w
          have HE := Lib.hid hE
          clear hE
          go_upto_region 6 with fail
          go_quiet (fail)
          clear hq u0 u1 v0 v1
          have hbw : Below W0.heap.size W0 (wr.drewN nq) := hbq.trans (below_drewN _ _ _)
          have hbz := hbx.trans (hbw.mono hbx.size)
          rcases E with _ | _
          · have hv := Hno.out (by rintro ⟨rfl, rfl⟩; have := HE.out; simp at this)
            have Hw := Lib.hid hv
            clear hv
            go_wp2_with fail
            go_ret
            exact ⟨ret_bool Hw.out.symm, hbz⟩
          · have hxy := Hnx.out (by have := HE.out; simp at this; rw [this.1, this.2])
            have Hxy := Lib.hid hxy
            clear hxy
            go_wp2_with fail
            go_roundw
            case rel => exact ⟨k + 1, by omega, by go_num, Hxy.out, hbw⟩
            case measure => simp [RowKit.intOf]; omega
        · have hv : V = true := by
            rw [Hv.out, decide_eq_true_eq]
            have := Htk.out
            rwa [List.take_of_length_le (by rw [Hxl.out]; exact hge), List.take_of_length_le (by rw [Hyl.out]; exact hge)] at this
          have Hw := Lib.hid hv
          clear hv
          go_wp2_with fail
          go_ret
          exact ⟨ret_bool Hw.out.symm, hbr⟩
end Go.Vir
