/- The walks of class.Right, Has, pattern.Right. -/
import Derived.Test.YtpjhjjkkbbmnjaaGreatDoorChecked
import Derived.Test.YtpjhjjkkbbmnjaaGreatDoorBase
import Derived.Test.YtpjhjjkkbbmnjaaGreatDoorSpec
import Derived.WalkLawsBesides
import Derived.BigQuiet
import Derived.Deep.QuietTactic
import Derived.Handy
import Derived.Lib.Hide
import Derived.Shelf.Abstract
namespace Go.Vir
open Go Go.RowKit Go.Proofs Go.Shelf

theorem shr_zero (s : Int) (k : Nat) (h : 0 ≤ s) : (s / 2 ^ k == 0) = decide (s < 2 ^ k) := by
  have hp : (0 : Int) < 2 ^ k := by exact_mod_cast Nat.pow_pos (by decide)
  rw [Bool.eq_iff_iff]
  simp only [beq_iff_eq, decide_eq_true_eq]
  constructor
  · intro h0
    have h1 := Int.emod_add_mul_ediv s (2 ^ k)
    have h2 := Int.emod_lt_of_pos s hp
    rw [h0] at h1
    omega
  · exact fun h1 => Int.ediv_eq_zero_of_lt h h1

theorem wraps_i64 (n : Int) (h₀ : 0 ≤ n) (h₁ : n < 2 ^ 63) : IntKind.i64.wrap n = n := by rw [IntKind.wrap_i64]; omega
theorem and_one (x : Int) (h0 : 0 ≤ x) (h1 : x < 9223372036854775808) : bits .and .i64 x 1 = x % 2 :=
  bits_mask .i64 63 (by decide) wraps_i64 1 (by decide) x h0 h1

set_option maxHeartbeats 400000 in
theorem class_Right (s n : Int) (w : World) :
    Calls Tryz.prog 65 #[.int .i64 s, .int .i64 n] w fun e w' => e = .returned (.bool (rightB s n)) ∧ w = w' := by
  go_enter Tryz.func65, Tryz.ntmps65
  go_wp2
  all_goals go_ret
  all_goals refine ⟨ret_bool ?_, rfl⟩
  · simp [rightB, *, shr_zero]
  · have : ¬ (0 ≤ s) := by omega
    simp [rightB, *]
  · have : ¬ (n ≤ 32) := by omega
    simp [rightB, *]
  · have : ¬ (1 ≤ n) := by omega
    simp [rightB, *]

theorem div_bd (s : Int) (k : Nat) (h0 : 0 ≤ s) (h1 : s < 9223372036854775808) : 0 ≤ s / 2 ^ k ∧ s / 2 ^ k < 9223372036854775808 := by
  have hp : (0 : Int) < 2 ^ k := by exact_mod_cast Nat.pow_pos (by decide)
  have h2 := Int.ediv_le_self (2 ^ k) h0
  have h3 : 0 ≤ s / 2 ^ k := Int.ediv_nonneg h0 (by omega)
  omega

set_option maxHeartbeats 400000 in
theorem class_Has (s c : Int) (w : World) :
    Calls Tryz.prog 173 #[.int .i64 s, .int .i64 c] w fun e w' => e = .returned (.bool (bitB s c)) ∧ w = w' := by
  go_enter Tryz.func173, Tryz.ntmps173
  go_wp2_with (go_at_call 65; refine (class_Right _ _ _).mono ?_; rintro e w' ⟨rfl, rfl⟩)
  all_goals go_ret
  all_goals refine ⟨ret_bool ?_, rfl⟩
  · have h : rightB s 32 = true := by assumption
    have h2 := h
    simp [rightB] at h2
    have := div_bd s c.toNat h2.1 (by omega)
    rw [and_one _ this.1 this.2]
    simp [bitB, *]
  · have : ¬ (c < 32) := by omega
    simp [bitB, *]
  · have : ¬ (0 ≤ c) := by omega
    simp [bitB, *]
  · simp [bitB, *]

set_option maxHeartbeats 400000 in
theorem pattern_Right1 (x : Int × Int) (n : Int) (b : Nat) (w : World) (hn : w.cell? ⟨b, 0, none⟩ = some (.int .i64 n)) (hb : b < w.heap.size) :
    Calls Tryz.prog 64 #[.agg #[.int .i64 x.1, .int .i64 x.2], .pointer (some ⟨b, 0, none⟩)] w fun e w' => e = .returned (.bool (!itemB n x)) ∧ Below w.heap.size w w' := by
  obtain ⟨s, h⟩ := x
  go_enter Tryz.func64, Tryz.ntmps64
  go_wp2_with (go_at_call 65; refine (class_Right _ _ _).mono ?_; rintro e w' ⟨rfl, rfl⟩)
  all_goals go_ret
  all_goals refine ⟨ret_bool ?_, by go_grown⟩
  · have : ¬ (0 ≤ h) := by omega
    simp [itemB, *]
  · have : ¬ (h ≤ 2) := by omega
    simp [itemB, *]
  · simp [itemB, *]

/-- A predicate by a function value: whatever has grown behind w, it says p and makes blocks of its own at most. -/
def Says {α : Type} (P : Program) (g : Nat) (lb : Array Value) (enc : α → Value) (p : α → Bool) (w : World) : Prop :=
  ∀ (x : α) (W : World), Below w.heap.size w W → Calls P g (#[enc x] ++ lb) W fun e W' => e = .returned (.bool (p x)) ∧ Below W.heap.size W W'

def encI (x : Int × Int) : Value := .agg #[.int .i64 x.1, .int .i64 x.2]

/-- The first place at which p holds; below 0: none. -/
def firstB {α : Type} (p : α → Bool) (xs : List α) : Int := if xs.any p then (xs.takeWhile (!p ·)).length else -1

theorem firstB_hit {α : Type} {p : α → Bool} {xs : List α} {k : Nat} (hk : k < xs.length) (hp : p xs[k] = true) (hno : ∀ (j : Nat) (h : j < k), p (xs[j]'(by omega)) = false) : firstB p xs = k := by
  have h1 : xs.any p = true := by simp only [List.any_eq_true]; exact ⟨xs[k], List.getElem_mem _, hp⟩
  have h2 : xs.takeWhile (!p ·) = xs.take k := by
    induction k generalizing xs with
    | zero =>
      cases xs with
      | nil => rfl
      | cons y ys => simp at hp; simp [hp]
    | succ k ih =>
      cases xs with
      | nil => simp at hk
      | cons y ys =>
        have h0 := hno 0 (by omega)
        simp only [List.getElem_cons_zero] at h0
        simp only [List.takeWhile_cons, h0, Bool.not_false, if_true, List.take_succ_cons, List.cons.injEq, true_and]
        refine ih (by simpa using hk) (by simpa using hp) (fun j hj => ?_) ?_
        · have := hno (j + 1) (by omega)
          simpa using this
        · simp only [List.any_eq_true]
          exact ⟨_, List.getElem_mem (by simpa using hk : k < ys.length), by simpa using hp⟩
  rw [firstB, if_pos h1, h2]
  simp
  omega
theorem firstB_none {α : Type} {p : α → Bool} {xs : List α} (hno : ∀ (j : Nat) (h : j < xs.length), p xs[j] = false) : firstB p xs = -1 := by
  rw [firstB, if_neg]
  simp only [List.any_eq_true, not_exists, not_and]
  intro x hx
  obtain ⟨j, hj, rfl⟩ := List.getElem_of_mem hx
  rw [hno j hj]; simp
theorem firstB_ge {α : Type} (p : α → Bool) (xs : List α) : decide (0 ≤ firstB p xs) = xs.any p := by
  unfold firstB
  split
  · rename_i h; rw [h]; simp
  · rename_i h; simp at h; simp; exact h

set_option maxHeartbeats 400000 in
theorem indexFunc_item {g : Nat} {lb : Array Value} {p : Int × Int → Bool} (A : Option Addr) (n c : Nat) (xs : List (Int × Int)) (w : World)
    (eg : ∀ args w, (callFunc g args).run Tryz.prog w = .ok (.enter g args) w) (hx : Prs w w.heap.size A n xs) (hp : Says Tryz.prog g lb encI p w) (hn : n ≤ 1000000) :
    Calls Tryz.prog 106 #[.slice A n c, .func (.func g) #[] lb] w fun e w' => e = .returned (.int .i64 (firstB p xs)) ∧ Below w.heap.size w w' := by
  go_enter Tryz.func106, Tryz.ntmps106
  go_wp2
  have hlen := hx.len
  go_loopw [8] (fun i wr => ∃ k : Nat, k ≤ n ∧ i = .int .i64 k ∧ (∀ (j : Nat) (h : j < k) (h2 : j < xs.length), p xs[j] = false) ∧ Below w.heap.size w wr) (fun i _ => n - (intOf i).toNat)
  case atStart => exact ⟨0, Nat.zero_le _, rfl, fun j h => absurd h (by omega), Below.refl _ _⟩
  case round =>
    obtain ⟨k, hk, rfl, hno, hb⟩ := hrel
    rcases Nat.lt_or_ge k n with hlt | hge
    · obtain ⟨zb, zo, rfl, hzb, hzc⟩ := hx.at_ (by omega)
      have hz := hzc k (by omega)
      have z1 := (cellOf hb hzb).trans hz.1
      have z2 := (cellOf hb hzb).trans hz.2
      have hc := hp xs[k] wr hb
      go_wp2
      refine hc.mono ?_
      rintro e w1 ⟨rfl, hb1⟩
      rcases hpk : p xs[k] with _ | _
      · have hno' : ∀ (j : Nat) (h : j < k + 1) (h2 : j < xs.length), p xs[j] = false := fun j h h2 => by
          rcases Nat.lt_or_ge j k with h3 | h3
          · exact hno j h3 h2
          · obtain rfl : j = k := by omega
            exact hpk
        have hb2 := hb.trans (hb1.mono hb.size)
        clear hno hb hb1 hc hpk
        go_wp2
        go_roundw
        case rel => exact ⟨k + 1, by omega, by go_num, hno', hb2⟩
        case measure => simp [intOf]; omega
      · have hf : firstB p xs = k := firstB_hit (by omega) hpk (fun j h => hno j h (by omega))
        have Hf := Lib.hid hf
        clear hf hpk
        go_wp2
        go_ret
        exact ⟨ret_int Hf.out.symm, hb.trans (hb1.mono hb.size)⟩
    · have hf : firstB p xs = -1 := firstB_none (fun j h => hno j (by omega) h)
      have Hf := Lib.hid hf
      clear hf
      go_wp2
      go_ret
      exact ⟨ret_int Hf.out.symm, hb⟩

set_option maxHeartbeats 400000 in
theorem containsFunc_item {g : Nat} {lb : Array Value} {p : Int × Int → Bool} (A : Option Addr) (n c : Nat) (xs : List (Int × Int)) (w : World)
    (eg : ∀ args w, (callFunc g args).run Tryz.prog w = .ok (.enter g args) w) (hx : Prs w w.heap.size A n xs) (hp : Says Tryz.prog g lb encI p w) (hn : n ≤ 1000000) :
    Calls Tryz.prog 66 #[.slice A n c, .func (.func g) #[] lb] w fun e w' => e = .returned (.bool (xs.any p)) ∧ Below w.heap.size w w' := by
  have hc := indexFunc_item A n c xs w eg hx hp hn
  rw [← firstB_ge p xs]
  clear eg hx hp
  go_enter Tryz.func66, Tryz.ntmps66
  go_wp2_with (go_at_call 106; refine hc.mono ?_; rintro e w1 ⟨rfl, hb1⟩)
  go_ret
  exact ⟨rfl, hb1⟩

theorem says_right (n : Int) (b : Nat) (w : World) (hn : w.cell? ⟨b, 0, none⟩ = some (.int .i64 n)) (hb : b < w.heap.size) :
    Says Tryz.prog 64 #[.pointer (some ⟨b, 0, none⟩)] encI (fun x => !itemB n x) w :=
  fun x W hW => pattern_Right1 x n b W ((cellOf hW hb).trans hn) (Nat.lt_of_lt_of_le hb hW.size)

set_option maxHeartbeats 400000 in
theorem pattern_Right (st : Bool) (A : Option Addr) (m c : Nat) (xs : List (Int × Int)) (n : Int) (w : World) (hx : Prs w w.heap.size A m xs) (hm : m ≤ 1000000) :
    Calls Tryz.prog 23 #[.agg #[.bool st, .slice A m c], .int .i64 n] w fun e w' => e = .returned (.bool (patB n xs)) ∧ Below w.heap.size w w' := by
  have hl := hx.len
  have hc := fun W (hW : Below w.heap.size w W) b (hb : b < W.heap.size) (hn : W.cell? ⟨b, 0, none⟩ = some (.int .i64 n)) =>
    containsFunc_item A m c xs W (enters_of Tryz.func64 (by kernel_rfl) rfl) ((hx.below hW).more hW.size) (says_right n b W hn hb) hm
  have Hc := Lib.hid hc
  clear hc
  go_enter Tryz.func23, Tryz.ntmps23
  go_wp2_with (go_at_call 66; refine (Hc.out _ (by go_grown) _ (by simp) (by simp)).mono ?_; rintro e w1 ⟨rfl, hb1⟩)
  all_goals go_ret
  · have hm' : xs.length ≤ 10 := by omega
    clear hl
    refine ⟨ret_bool ?_, Below.trans (by go_grown) (Below.mono hb1 (by simp; omega))⟩
    simp [patB, *, List.all_eq_not_any_not]
  · refine ⟨ret_bool ?_, by go_grown⟩
    have : ¬ (xs.length ≤ 10) := by omega
    clear hl
    simp [patB, *]
  · refine ⟨ret_bool ?_, by go_grown⟩
    have : ¬ (n ≤ 32) := by omega
    simp [patB, *]
  · refine ⟨ret_bool ?_, by go_grown⟩
    have : ¬ (1 ≤ n) := by omega
    simp [patB, *]
end Go.Vir
