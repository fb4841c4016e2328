/- The reference's sets and patterns: worth, Right, Has. -/
import Derived.Test.YtpjhjjkkbbmnjaaGreatDoorRch
namespace Go.Vir
open Go Go.RowKit Go.Proofs Go.Shelf
attribute [local go_sem] Oper.semAt_some

set_option maxHeartbeats 400000 in
theorem ref_worth (n : Nat) (w : World) (hn : n ≤ 40) :
    Calls Tryz.prog 107 #[.int .i64 (n : Int)] w fun e w' => e = .returned (.int .i64 (2 ^ n)) ∧ w = w' := by
  go_enter Tryz.func107, Tryz.ntmps107
  go_wp2
  go_loop [3, 4] (fun v i => ∃ (k : Nat) (P : Int), k ≤ n ∧ i = .int .i64 (k : Int) ∧ v = .int .i64 P ∧ P = 2 ^ k) (fun _ i => n - (RowKit.intOf i).toNat)
  case atStart => exact ⟨0, 1, Nat.zero_le _, rfl, rfl, rfl⟩
  case round =>
    obtain ⟨k, P, hk, rfl, rfl, hP⟩ := hrel
    have hP0 : 1 ≤ P := by rw [hP]; exact_mod_cast Nat.one_le_two_pow
    have hP1 : P ≤ 1099511627776 := by
      have h1 : 2 ^ k ≤ 2 ^ 40 := Nat.pow_le_pow_right (by decide) (show k ≤ 40 by omega)
      have h2 : (2 : Int) ^ k = ((2 ^ k : Nat) : Int) := by simp
      rw [hP, h2]; omega
    have HP := Lib.hid hP
    clear hP
    rcases Nat.lt_or_ge k n with hlt | hge
    · go_wp2
      go_round
      case rel => exact ⟨k + 1, _, by omega, by go_num, rfl, by rw [HP.out, Int.pow_succ, Int.mul_comm]⟩
      case measure => simp [RowKit.intOf]; omega
    · obtain rfl : k = n := by omega
      go_wp2
      go_ret
      exact ⟨ret_int HP.out, rfl⟩

theorem ref_worthI (n : Int) (w : World) (h0 : 0 ≤ n) (hn : n ≤ 40) :
    Calls Tryz.prog 107 #[.int .i64 n] w fun e w' => e = .returned (.int .i64 (2 ^ n.toNat)) ∧ w = w' := by
  obtain ⟨k, rfl⟩ := Int.eq_ofNat_of_zero_le h0
  exact ref_worth k w (by omega)

set_option maxHeartbeats 400000 in
theorem ref_Right8 (s n : Int) (w : World) :
    Calls Tryz.prog 67 #[.int .i64 s, .int .i64 n] w fun e w' => e = .returned (.bool (rightB s n)) ∧ w = w' := by
  go_enter Tryz.func67, Tryz.ntmps67
  go_wp2_with (go_at_call 107; refine (ref_worthI _ _ (by omega) (by omega)).mono ?_; rintro e w' ⟨rfl, rfl⟩)
  all_goals go_ret
  all_goals refine ⟨ret_bool ?_, rfl⟩
  · simp [rightB, *]
  · have : ¬ (0 ≤ s) := by omega
    simp [rightB, *]
  · have : ¬ (n ≤ 32) := by omega
    simp [rightB, *]
  · have : ¬ (1 ≤ n) := by omega
    simp [rightB, *]

set_option maxHeartbeats 400000 in
theorem ref_Has8 (s c : Int) (w : World) :
    Calls Tryz.prog 139 #[.int .i64 s, .int .i64 c] w fun e w' => e = .returned (.bool (bitB s c)) ∧ w = w' := by
  rcases hr : rightB s 32 with _ | _
  · have hb : bitB s c = false := by simp [bitB, hr]
    rw [hb]
    go_enter Tryz.func139, Tryz.ntmps139
    go_wp2_with (go_at_call 67; refine (ref_Right8 _ _ _).mono ?_; rintro e w' ⟨rfl, rfl⟩)
    go_ret
    exact ⟨rfl, rfl⟩
  · by_cases hc : 0 ≤ c ∧ c < 32
    · obtain ⟨h0, h1⟩ := hc
      have h2 := hr
      simp [rightB] at h2
      have hs0 := h2.1
      have hs1 : s < 4294967296 := h2.2
      clear h2
      have hw := ref_worthI c w h0 (by omega)
      have hp0 : (1 : Int) ≤ 2 ^ c.toNat := by exact_mod_cast Nat.one_le_two_pow
      have hp1 : (2 : Int) ^ c.toNat ≤ 4294967296 := by
        have h1 : 2 ^ c.toNat ≤ 2 ^ 32 := Nat.pow_le_pow_right (by decide) (by omega)
        have h2 : (2 : Int) ^ c.toNat = ((2 ^ c.toNat : Nat) : Int) := by simp
        rw [h2]; omega
      have hb : bitB s c = (s / 2 ^ c.toNat % 2 == 1) := by simp [bitB, hr, h0, h1]
      rw [hb]
      clear hb
      generalize (2 : Int) ^ c.toNat = P at *
      have hq0 : 0 ≤ s / P := Int.ediv_nonneg hs0 (by omega)
      have hq1 : s / P ≤ s := Int.ediv_le_self P hs0
      go_enter Tryz.func139, Tryz.ntmps139
      go_wp2_with (first | (go_at_call 67; refine (ref_Right8 _ _ _).mono ?_; rintro e w' ⟨rfl, rfl⟩) | (go_at_call 107; refine hw.mono ?_; rintro e w' ⟨rfl, rfl⟩))
      go_ret
      exact ⟨rfl, rfl⟩
    · have hb : bitB s c = false := by
        simp only [bitB]
        rcases (show ¬ (0 ≤ c) ∨ ¬ (c < 32) by omega) with h | h <;> simp [h]
      rw [hb]
      rcases (show c < 0 ∨ (0 ≤ c ∧ 32 ≤ c) by omega) with h | ⟨h, h'⟩
      · clear hc hb
        go_enter Tryz.func139, Tryz.ntmps139
        go_wp2_with (go_at_call 67; refine (ref_Right8 _ _ _).mono ?_; rintro e w' ⟨rfl, rfl⟩)
        go_ret
        exact ⟨rfl, rfl⟩
      · clear hc hb
        go_enter Tryz.func139, Tryz.ntmps139
        go_wp2_with (go_at_call 67; refine (ref_Right8 _ _ _).mono ?_; rintro e w' ⟨rfl, rfl⟩)
        go_ret
        exact ⟨rfl, rfl⟩

theorem patB_item {n : Int} {xs : List (Int × Int)} {x : Int × Int} (hx : x ∈ xs) (h : itemB n x = false) : patB n xs = false := by
  rw [← Bool.not_eq_true]
  intro hp
  simp only [patB, Bool.and_eq_true, List.all_eq_true] at hp
  rw [hp.2.2.2 x hx] at h; cases h

set_option maxHeartbeats 800000 in
theorem ref_Right9 (st : Bool) (A : Option Addr) (m c : Nat) (xs : List (Int × Int)) (n : Int) (w : World) (hx : Prs w w.heap.size A m xs) (hm : m ≤ 1000000) :
    Calls Tryz.prog 24 #[.agg #[.bool st, .slice A m c], .int .i64 n] w fun e w' => e = .returned (.bool (patB n xs)) ∧ Below w.heap.size w w' := by
  have Hl := Lib.hid hx.len
  go_enter Tryz.func24, Tryz.ntmps24
  go_wp2
  go_loopw [5] (fun i wr => ∃ k : Nat, k ≤ m ∧ i = .int .i64 (k : Int) ∧ (xs.take k).all (itemB n) = true ∧ Below w.heap.size w wr ∧ wr.heap[w.heap.size]? = some (.cells #[.bool st, .slice A m c] 24 (0, 0))) (fun i _ => m - (RowKit.intOf i).toNat)
  case atStart => exact ⟨0, Nat.zero_le _, rfl, by simp, by go_grown, heap_new rfl⟩
  case round =>
    obtain ⟨k, hk, rfl, hall, hb, hbox⟩ := hrel
    have e1 := cell_blk hbox 1
    simp only [List.getElem?_toArray, List.getElem?_cons_zero, List.getElem?_cons_succ] at e1
    have Hall := Lib.hid hall
    clear hall
    rcases Nat.lt_or_ge k m with hlt | hge
    · obtain ⟨xb, xo, rfl, hxb, hxc⟩ := hx.at_ (by omega)
      have hkx : k < xs.length := by rw [Hl.out]; exact hlt
      have hz := hxc k hkx
      have z1 := (cellOf hb hxb).trans hz.1
      have z2 := (cellOf hb hxb).trans hz.2
      have htk : (xs.take (k + 1)).all (itemB n) = itemB n xs[k] := by rw [List.take_succ_eq_append_getElem hkx, List.all_append, Hall.out]; simp
      have hno : itemB n xs[k] = false → patB n xs = false := patB_item (List.getElem_mem hkx)
      have Htk := Lib.hid htk
      have Hno := Lib.hid hno
      clear htk hno hz hxc
      generalize xs[k] = x at *
      obtain ⟨s, h⟩ := x
      simp only at z1 z2
      rcases hr : rightB s n with _ | _
      · have hf := Hno.out (by simp [itemB, hr])
        have Hf := Lib.hid hf
        clear hf
        go_wp2_with (go_at_call 67; refine (ref_Right8 _ _ _).mono ?_; rintro e w' ⟨rfl, rfl⟩)
        go_ret
        exact ⟨ret_bool Hf.out.symm, hb.alloc hb.size _⟩
      · rcases (show h < 0 ∨ 2 < h ∨ (0 ≤ h ∧ h ≤ 2) by omega) with h0 | h0 | ⟨h0, h2⟩
        · have hf := Hno.out (by simp only [itemB]; rw [decide_eq_false (by omega)]; rfl)
          have Hf := Lib.hid hf
          clear hf
          go_wp2_with (go_at_call 67; refine (ref_Right8 _ _ _).mono ?_; rintro e w' ⟨rfl, rfl⟩)
          go_ret
          exact ⟨ret_bool Hf.out.symm, hb.alloc hb.size _⟩
        · have hf := Hno.out (by simp only [itemB]; rw [decide_eq_false (show ¬ h ≤ 2 by omega)]; simp)
          have Hf := Lib.hid hf
          clear hf
          have hg0 : 0 ≤ h := by omega
          go_wp2_with (go_at_call 67; refine (ref_Right8 _ _ _).mono ?_; rintro e w' ⟨rfl, rfl⟩)
          go_ret
          exact ⟨ret_bool Hf.out.symm, hb.alloc hb.size _⟩
        · have hi : itemB n (s, h) = true := by simp [itemB, hr, h0, h2]
          have Hi := Lib.hid hi
          clear hi
          have hb2 : Below w.heap.size w (wr.alloc (.cells #[.int .i64 s, .int .i64 h] 70)) := hb.alloc hb.size _
          have hbox2 : (wr.alloc (.cells #[.int .i64 s, .int .i64 h] 70)).heap[w.heap.size]? = some (.cells #[.bool st, .slice (some ⟨xb, xo, none⟩) m c] 24 (0, 0)) := by
            rw [heap_old (Array.getElem?_eq_some_iff.1 hbox).1]; exact hbox
          go_wp2_with (go_at_call 67; refine (ref_Right8 _ _ _).mono ?_; rintro e w' ⟨rfl, rfl⟩)
          go_roundw
          case rel => exact ⟨k + 1, by omega, by go_num, by rw [Htk.out, Hi.out], hb2, hbox2⟩
          case measure => simp [RowKit.intOf]; omega
    · have hkm : k = m := by omega
      have hall2 : xs.all (itemB n) = true := by
        have := Hall.out
        rwa [List.take_of_length_le (by rw [Hl.out]; exact hge)] at this
      have Hall2 := Lib.hid hall2
      clear hall2 Hall
      subst hkm
      go_wp2
      all_goals go_ret
      all_goals refine ⟨ret_bool ?_, hb⟩
      · have hm' : xs.length ≤ 10 ↔ k ≤ 10 := by rw [Hl.out]
        have hm2 : (k : Int) ≤ 10 ↔ k ≤ 10 := by omega
        simp [patB, Hall2.out, *]
      · have : ¬ (n ≤ 32) := by omega
        simp [patB, *]
      · have : ¬ (1 ≤ n) := by omega
        simp [patB, *]
end Go.Vir
