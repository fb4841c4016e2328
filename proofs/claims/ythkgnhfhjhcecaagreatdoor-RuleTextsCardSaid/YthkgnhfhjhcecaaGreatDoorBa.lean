/- Joined texts: Base, Spec, WkA, Range, WkB, WkC, WkG, Map. -/
import Derived.Test.YthkgnhfhjhcecaaGreatDoorChecked
import Derived.WalkKit
import Derived.WalkSpells
import Derived.OneCell
import Derived.Laws.AppendOwn
import Derived.Deep.Draws
import Derived.WalkLawsBesides
import Derived.BigQuiet
import Derived.Deep.QuietTactic
import Derived.Handy
import Derived.Lib.Hide
import Derived.Shelf.Abstract
import Derived.RangeFuncNested
import Derived.RangeFuncBound
import Derived.RangeFuncCalls
import Derived.RangeFuncLeaves
import Derived.OwnWalkIn
import Derived.TacticsInMore
import Derived.LoopNIn
import Derived.LoopIn
import Derived.RangeFuncBox
import Derived.Maps.AppendAt
import Derived.Deep.Cut
import Derived.StillTailTactics
import Derived.Laws.RangeAny
import Derived.Lib.Strings
import Derived.RangeFuncRecord
/- Small words for memory: slices that read as lists, kept below a block number. No program. -/
namespace Go.Vir
open Go Go.RowKit

/-- A slice of ints that reads as zs, in a block below B. -/
structure Ints (w : World) (B : Nat) (A : Option Addr) (n : Nat) (zs : List Int) : Prop where
  len : zs.length = n
  at_ : 0 < n → ∃ b o, A = some ⟨b, o, none⟩ ∧ b < B ∧ ∀ (j : Nat) (h : j < zs.length), w.cell? ⟨b, o + j, none⟩ = some (.int .i64 zs[j])

/-- A slice of strings that reads as ss. -/
structure Strs (w : World) (B : Nat) (A : Option Addr) (n : Nat) (ss : List (List UInt8)) : Prop where
  len : ss.length = n
  at_ : 0 < n → ∃ b o, A = some ⟨b, o, none⟩ ∧ b < B ∧ ∀ (j : Nat) (h : j < ss.length), w.cell? ⟨b, o + j, none⟩ = some (.string ⟨ss[j].toArray⟩)

/-- A slice of pairs of ints that reads as ps. -/
structure Prs (w : World) (B : Nat) (A : Option Addr) (n : Nat) (ps : List (Int × Int)) : Prop where
  len : ps.length = n
  at_ : 0 < n → ∃ b o, A = some ⟨b, o, none⟩ ∧ b < B ∧ ∀ (j : Nat) (h : j < ps.length), w.cell? ⟨b, o + j * 2, none⟩ = some (.int .i64 ps[j].1) ∧ w.cell? ⟨b, o + j * 2 + 1, none⟩ = some (.int .i64 ps[j].2)

section
variable {w w' : World} {B B' n : Nat} {A : Option Addr}

theorem cellOf {b o : Nat} (hb : Below B w w') (h : b < B) : w'.cell? ⟨b, o, none⟩ = w.cell? ⟨b, o, none⟩ := hb.cell (p := ⟨b, o, none⟩) h
theorem frozenOf {b o : Nat} (hb : Below B w w') (h : b < B) : w'.frozen? ⟨b, o, none⟩ = w.frozen? ⟨b, o, none⟩ := hb.frozen (p := ⟨b, o, none⟩) h

theorem Ints.below {zs : List Int} (h : Ints w B A n zs) (hb : Below B w w') : Ints w' B A n zs :=
  ⟨h.len, fun hn => let ⟨b, o, e, hlt, hc⟩ := h.at_ hn; ⟨b, o, e, hlt, fun j hj => (cellOf hb hlt).trans (hc j hj)⟩⟩
theorem Ints.more {zs : List Int} (h : Ints w B A n zs) (hB : B ≤ B') : Ints w B' A n zs :=
  ⟨h.len, fun hn => let ⟨b, o, e, hlt, hc⟩ := h.at_ hn; ⟨b, o, e, by omega, hc⟩⟩
theorem Ints.nil (w : World) (B : Nat) (A : Option Addr) : Ints w B A 0 [] := ⟨rfl, fun h => absurd h (by omega)⟩
theorem Strs.below {ss : List (List UInt8)} (h : Strs w B A n ss) (hb : Below B w w') : Strs w' B A n ss :=
  ⟨h.len, fun hn => let ⟨b, o, e, hlt, hc⟩ := h.at_ hn; ⟨b, o, e, hlt, fun j hj => (cellOf hb hlt).trans (hc j hj)⟩⟩
theorem Strs.more {ss : List (List UInt8)} (h : Strs w B A n ss) (hB : B ≤ B') : Strs w B' A n ss :=
  ⟨h.len, fun hn => let ⟨b, o, e, hlt, hc⟩ := h.at_ hn; ⟨b, o, e, by omega, hc⟩⟩
theorem Strs.nil (w : World) (B : Nat) (A : Option Addr) : Strs w B A 0 [] := ⟨rfl, fun h => absurd h (by omega)⟩
theorem Prs.below {ps : List (Int × Int)} (h : Prs w B A n ps) (hb : Below B w w') : Prs w' B A n ps :=
  ⟨h.len, fun hn => let ⟨b, o, e, hlt, hc⟩ := h.at_ hn; ⟨b, o, e, hlt, fun j hj => ⟨(cellOf hb hlt).trans (hc j hj).1, (cellOf hb hlt).trans (hc j hj).2⟩⟩⟩
theorem Prs.more {ps : List (Int × Int)} (h : Prs w B A n ps) (hB : B ≤ B') : Prs w B' A n ps :=
  ⟨h.len, fun hn => let ⟨b, o, e, hlt, hc⟩ := h.at_ hn; ⟨b, o, e, by omega, hc⟩⟩
theorem Prs.nil (w : World) (B : Nat) (A : Option Addr) : Prs w B A 0 [] := ⟨rfl, fun h => absurd h (by omega)⟩

theorem Ints.of_own {base e c : Nat} {zs : List Int} (h : w.ownsRow base e 1 (.slice A n c) n (zs.map (Value.int .i64))) : Ints w w.heap.size A n zs := by
  refine ⟨by simpa using h.1, fun hn => ?_⟩
  rcases h.2 with ⟨_, h0⟩ | ⟨g, cap, cur, hv, _, hgb, _, _, _, ht⟩
  · omega
  · injection hv with hA _ _
    subst hA
    refine ⟨g, 0, rfl, (Array.getElem?_eq_some_iff.1 hgb).1, fun j hj => ?_⟩
    simp only [World.cell?, hgb, Nat.zero_add]
    have h1 : (cur.toList.take (n * 1))[j]? = some (.int .i64 zs[j]) := by rw [ht]; simp [hj]
    rw [List.getElem?_take] at h1
    split at h1
    · simpa using h1
    · cases h1

theorem Strs.of_own {base e c : Nat} {zs : List (List UInt8)} (h : w.ownsRow base e 1 (.slice A n c) n (zs.map fun z => Value.string ⟨z.toArray⟩)) : Strs w w.heap.size A n zs := by
  refine ⟨by simpa using h.1, fun hn => ?_⟩
  rcases h.2 with ⟨_, h0⟩ | ⟨g, cap, cur, hv, _, hgb, _, _, _, ht⟩
  · omega
  · injection hv with hA _ _
    subst hA
    refine ⟨g, 0, rfl, (Array.getElem?_eq_some_iff.1 hgb).1, fun j hj => ?_⟩
    simp only [World.cell?, hgb, Nat.zero_add]
    have h1 : (cur.toList.take (n * 1))[j]? = some (.string ⟨zs[j].toArray⟩) := by rw [ht]; simp [hj]
    rw [List.getElem?_take] at h1
    split at h1
    · simpa using h1
    · cases h1

/-- All old cells and marks read as they did. -/
theorem bcell {W w1 : World} (hb : Below W.heap.size W w1) : (∀ b o, b < W.heap.size → w1.cell? ⟨b, o, none⟩ = W.cell? ⟨b, o, none⟩) ∧ (∀ b o, b < W.heap.size → w1.frozen? ⟨b, o, none⟩ = W.frozen? ⟨b, o, none⟩) :=
  ⟨fun b o h => hb.cell (p := ⟨b, o, none⟩) h, fun b o h => hb.frozen (p := ⟨b, o, none⟩) h⟩

theorem cell_blk {b : Nat} {cs : Array Value} {t : TypeId} {m : Nat × Nat} (h : w.heap[b]? = some (.cells cs t m)) (o : Nat) : w.cell? ⟨b, o, none⟩ = cs[o]? := by
  simp [World.cell?, h]
theorem frozen_blk {b : Nat} {cs : Array Value} {t : TypeId} (h : w.heap[b]? = some (.cells cs t (0, 0))) (o : Nat) : w.frozen? ⟨b, o, none⟩ = false := by
  simp [World.frozen?, h]
end

theorem below_drewN (B : Nat) (w : World) (n : Nat) : Below B w (w.drewN n) := ⟨rfl, rfl, rfl, Nat.le_refl _, fun _ _ => rfl⟩
theorem ret_bool {a b : Bool} (h : a = b) : Ending.returned (.bool a) = .returned (.bool b) := by rw [h]
theorem ret_int {k : IntKind} {a b : Int} (h : a = b) : Ending.returned (.int k a) = .returned (.int k b) := by rw [h]
end Go.Vir

/- What the functions of classes and patterns compute: plain Lean, no program. -/
namespace Go.Vir

/-- P8.1: a right set of classes. -/
def rightB (s n : Int) : Bool := decide (1 ≤ n) && (decide (n ≤ 32) && (decide (0 ≤ s) && decide (s < 2 ^ n.toNat)))
/-- P8.1: a class of a set. -/
def bitB (s c : Int) : Bool := rightB s 32 && (decide (0 ≤ c) && (decide (c < 32) && (s / 2 ^ c.toNat % 2 == 1)))
/-- P9.1: a right item of so many classes. -/
def itemB (n : Int) (x : Int × Int) : Bool := decide (0 ≤ x.2) && (decide (x.2 ≤ 2) && rightB x.1 n)
/-- P9.1: a right pattern. -/
def patB (n : Int) (xs : List (Int × Int)) : Bool := decide (1 ≤ n) && (decide (n ≤ 32) && (decide (xs.length ≤ 10) && xs.all (itemB n)))
end Go.Vir

/- The walks of class.Right, Has, pattern.Right. -/
namespace Go.Vir
open Go Go.RowKit Go.Proofs Go.Shelf

theorem shr_zero (s : Int) (k : Nat) (h : 0 ≤ s) : (s / 2 ^ k == 0) = decide (s < 2 ^ k) := by
  have hp : (0 : Int) < 2 ^ k := by exact_mod_cast Nat.pow_pos (by decide)
  rw [Bool.eq_iff_iff]
  simp only [beq_iff_eq, decide_eq_true_eq]
  constructor
  · intro h0
    have h1 := Int.emod_add_mul_ediv s (2 ^ k)
    have h2 := Int.emod_lt_of_pos s hp
    rw [h0] at h1
    omega
  · exact fun h1 => Int.ediv_eq_zero_of_lt h h1

theorem wraps_i64 (n : Int) (h₀ : 0 ≤ n) (h₁ : n < 2 ^ 63) : IntKind.i64.wrap n = n := by rw [IntKind.wrap_i64]; omega
theorem and_one (x : Int) (h0 : 0 ≤ x) (h1 : x < 9223372036854775808) : bits .and .i64 x 1 = x % 2 :=
  bits_mask .i64 63 (by decide) wraps_i64 1 (by decide) x h0 h1

set_option maxHeartbeats 400000 in
theorem class_Right (s n : Int) (w : World) :
    Calls Tryz.prog 188 #[.int .i64 s, .int .i64 n] w fun e w' => e = .returned (.bool (rightB s n)) ∧ w = w' := by
  go_enter Tryz.func188, Tryz.ntmps188
  go_wp2
  all_goals go_ret
  all_goals refine ⟨ret_bool ?_, rfl⟩
  · simp [rightB, *, shr_zero]
  · have : ¬ (0 ≤ s) := by omega
    simp [rightB, *]
  · have : ¬ (n ≤ 32) := by omega
    simp [rightB, *]
  · have : ¬ (1 ≤ n) := by omega
    simp [rightB, *]

theorem div_bd (s : Int) (k : Nat) (h0 : 0 ≤ s) (h1 : s < 9223372036854775808) : 0 ≤ s / 2 ^ k ∧ s / 2 ^ k < 9223372036854775808 := by
  have hp : (0 : Int) < 2 ^ k := by exact_mod_cast Nat.pow_pos (by decide)
  have h2 := Int.ediv_le_self (2 ^ k) h0
  have h3 : 0 ≤ s / 2 ^ k := Int.ediv_nonneg h0 (by omega)
  omega

set_option maxHeartbeats 400000 in
theorem class_Has (s c : Int) (w : World) :
    Calls Tryz.prog 237 #[.int .i64 s, .int .i64 c] w fun e w' => e = .returned (.bool (bitB s c)) ∧ w = w' := by
  go_enter Tryz.func237, Tryz.ntmps237
  go_wp2_with (go_at_call 188; refine (class_Right _ _ _).mono ?_; rintro e w' ⟨rfl, rfl⟩)
  all_goals go_ret
  all_goals refine ⟨ret_bool ?_, rfl⟩
  · have h : rightB s 32 = true := by assumption
    have h2 := h
    simp [rightB] at h2
    have := div_bd s c.toNat h2.1 (by omega)
    rw [and_one _ this.1 this.2]
    simp [bitB, *]
  · have : ¬ (c < 32) := by omega
    simp [bitB, *]
  · have : ¬ (0 ≤ c) := by omega
    simp [bitB, *]
  · simp [bitB, *]

set_option maxHeartbeats 400000 in
theorem pattern_Right1 (x : Int × Int) (n : Int) (b : Nat) (w : World) (hn : w.cell? ⟨b, 0, none⟩ = some (.int .i64 n)) (hb : b < w.heap.size) :
    Calls Tryz.prog 187 #[.agg #[.int .i64 x.1, .int .i64 x.2], .pointer (some ⟨b, 0, none⟩)] w fun e w' => e = .returned (.bool (!itemB n x)) ∧ Below w.heap.size w w' := by
  obtain ⟨s, h⟩ := x
  go_enter Tryz.func187, Tryz.ntmps187
  go_wp2_with (go_at_call 188; refine (class_Right _ _ _).mono ?_; rintro e w' ⟨rfl, rfl⟩)
  all_goals go_ret
  all_goals refine ⟨ret_bool ?_, by go_grown⟩
  · have : ¬ (0 ≤ h) := by omega
    simp [itemB, *]
  · have : ¬ (h ≤ 2) := by omega
    simp [itemB, *]
  · simp [itemB, *]

/-- A predicate by a function value: whatever has grown behind w, it says p and makes blocks of its own at most. -/
def Says {α : Type} (P : Program) (g : Nat) (lb : Array Value) (enc : α → Value) (p : α → Bool) (w : World) : Prop :=
  ∀ (x : α) (W : World), Below w.heap.size w W → Calls P g (#[enc x] ++ lb) W fun e W' => e = .returned (.bool (p x)) ∧ Below W.heap.size W W'

def encI (x : Int × Int) : Value := .agg #[.int .i64 x.1, .int .i64 x.2]

/-- The first place at which p holds; below 0: none. -/
def firstB {α : Type} (p : α → Bool) (xs : List α) : Int := if xs.any p then (xs.takeWhile (!p ·)).length else -1

theorem firstB_hit {α : Type} {p : α → Bool} {xs : List α} {k : Nat} (hk : k < xs.length) (hp : p xs[k] = true) (hno : ∀ (j : Nat) (h : j < k), p (xs[j]'(by omega)) = false) : firstB p xs = k := by
  have h1 : xs.any p = true := by simp only [List.any_eq_true]; exact ⟨xs[k], List.getElem_mem _, hp⟩
  have h2 : xs.takeWhile (!p ·) = xs.take k := by
    induction k generalizing xs with
    | zero =>
      cases xs with
      | nil => rfl
      | cons y ys => simp at hp; simp [hp]
    | succ k ih =>
      cases xs with
      | nil => simp at hk
      | cons y ys =>
        have h0 := hno 0 (by omega)
        simp only [List.getElem_cons_zero] at h0
        simp only [List.takeWhile_cons, h0, Bool.not_false, if_true, List.take_succ_cons, List.cons.injEq, true_and]
        refine ih (by simpa using hk) (by simpa using hp) (fun j hj => ?_) ?_
        · have := hno (j + 1) (by omega)
          simpa using this
        · simp only [List.any_eq_true]
          exact ⟨_, List.getElem_mem (by simpa using hk : k < ys.length), by simpa using hp⟩
  rw [firstB, if_pos h1, h2]
  simp
  omega
theorem firstB_none {α : Type} {p : α → Bool} {xs : List α} (hno : ∀ (j : Nat) (h : j < xs.length), p xs[j] = false) : firstB p xs = -1 := by
  rw [firstB, if_neg]
  simp only [List.any_eq_true, not_exists, not_and]
  intro x hx
  obtain ⟨j, hj, rfl⟩ := List.getElem_of_mem hx
  rw [hno j hj]; simp
theorem firstB_ge {α : Type} (p : α → Bool) (xs : List α) : decide (0 ≤ firstB p xs) = xs.any p := by
  unfold firstB
  split
  · rename_i h; rw [h]; simp
  · rename_i h; simp at h; simp; exact h

set_option maxHeartbeats 400000 in
theorem indexFunc_item {g : Nat} {lb : Array Value} {p : Int × Int → Bool} (A : Option Addr) (n c : Nat) (xs : List (Int × Int)) (w : World)
    (eg : ∀ args w, (callFunc g args).run Tryz.prog w = .ok (.enter g args) w) (hx : Prs w w.heap.size A n xs) (hp : Says Tryz.prog g lb encI p w) (hn : n ≤ 1000000) :
    Calls Tryz.prog 226 #[.slice A n c, .func (.func g) #[] lb] w fun e w' => e = .returned (.int .i64 (firstB p xs)) ∧ Below w.heap.size w w' := by
  go_enter Tryz.func226, Tryz.ntmps226
  go_wp2
  have hlen := hx.len
  go_loopw [8] (fun i wr => ∃ k : Nat, k ≤ n ∧ i = .int .i64 k ∧ (∀ (j : Nat) (h : j < k) (h2 : j < xs.length), p xs[j] = false) ∧ Below w.heap.size w wr) (fun i _ => n - (intOf i).toNat)
  case atStart => exact ⟨0, Nat.zero_le _, rfl, fun j h => absurd h (by omega), Below.refl _ _⟩
  case round =>
    obtain ⟨k, hk, rfl, hno, hb⟩ := hrel
    rcases Nat.lt_or_ge k n with hlt | hge
    · obtain ⟨zb, zo, rfl, hzb, hzc⟩ := hx.at_ (by omega)
      have hz := hzc k (by omega)
      have z1 := (cellOf hb hzb).trans hz.1
      have z2 := (cellOf hb hzb).trans hz.2
      have hc := hp xs[k] wr hb
      go_wp2
      refine hc.mono ?_
      rintro e w1 ⟨rfl, hb1⟩
      rcases hpk : p xs[k] with _ | _
      · have hno' : ∀ (j : Nat) (h : j < k + 1) (h2 : j < xs.length), p xs[j] = false := fun j h h2 => by
          rcases Nat.lt_or_ge j k with h3 | h3
          · exact hno j h3 h2
          · obtain rfl : j = k := by omega
            exact hpk
        have hb2 := hb.trans (hb1.mono hb.size)
        clear hno hb hb1 hc hpk
        go_wp2
        go_roundw
        case rel => exact ⟨k + 1, by omega, by go_num, hno', hb2⟩
        case measure => simp [intOf]; omega
      · have hf : firstB p xs = k := firstB_hit (by omega) hpk (fun j h => hno j h (by omega))
        have Hf := Lib.hid hf
        clear hf hpk
        go_wp2
        go_ret
        exact ⟨ret_int Hf.out.symm, hb.trans (hb1.mono hb.size)⟩
    · have hf : firstB p xs = -1 := firstB_none (fun j h => hno j (by omega) h)
      have Hf := Lib.hid hf
      clear hf
      go_wp2
      go_ret
      exact ⟨ret_int Hf.out.symm, hb⟩

set_option maxHeartbeats 400000 in
theorem containsFunc_item {g : Nat} {lb : Array Value} {p : Int × Int → Bool} (A : Option Addr) (n c : Nat) (xs : List (Int × Int)) (w : World)
    (eg : ∀ args w, (callFunc g args).run Tryz.prog w = .ok (.enter g args) w) (hx : Prs w w.heap.size A n xs) (hp : Says Tryz.prog g lb encI p w) (hn : n ≤ 1000000) :
    Calls Tryz.prog 189 #[.slice A n c, .func (.func g) #[] lb] w fun e w' => e = .returned (.bool (xs.any p)) ∧ Below w.heap.size w w' := by
  have hc := indexFunc_item A n c xs w eg hx hp hn
  rw [← firstB_ge p xs]
  clear eg hx hp
  go_enter Tryz.func189, Tryz.ntmps189
  go_wp2_with (go_at_call 226; refine hc.mono ?_; rintro e w1 ⟨rfl, hb1⟩)
  go_ret
  exact ⟨rfl, hb1⟩

theorem says_right (n : Int) (b : Nat) (w : World) (hn : w.cell? ⟨b, 0, none⟩ = some (.int .i64 n)) (hb : b < w.heap.size) :
    Says Tryz.prog 187 #[.pointer (some ⟨b, 0, none⟩)] encI (fun x => !itemB n x) w :=
  fun x W hW => pattern_Right1 x n b W ((cellOf hW hb).trans hn) (Nat.lt_of_lt_of_le hb hW.size)

set_option maxHeartbeats 400000 in
theorem pattern_Right (st : Bool) (A : Option Addr) (m c : Nat) (xs : List (Int × Int)) (n : Int) (w : World) (hx : Prs w w.heap.size A m xs) (hm : m ≤ 1000000) :
    Calls Tryz.prog 143 #[.agg #[.bool st, .slice A m c], .int .i64 n] w fun e w' => e = .returned (.bool (patB n xs)) ∧ Below w.heap.size w w' := by
  have hl := hx.len
  have hc := fun W (hW : Below w.heap.size w W) b (hb : b < W.heap.size) (hn : W.cell? ⟨b, 0, none⟩ = some (.int .i64 n)) =>
    containsFunc_item A m c xs W (enters_of Tryz.func187 (by kernel_rfl) rfl) ((hx.below hW).more hW.size) (says_right n b W hn hb) hm
  have Hc := Lib.hid hc
  clear hc
  go_enter Tryz.func143, Tryz.ntmps143
  go_wp2_with (go_at_call 189; refine (Hc.out _ (by go_grown) _ (by simp) (by simp)).mono ?_; rintro e w1 ⟨rfl, hb1⟩)
  all_goals go_ret
  · have hm' : xs.length ≤ 10 := by omega
    clear hl
    refine ⟨ret_bool ?_, Below.trans (by go_grown) (Below.mono hb1 (by simp; omega))⟩
    simp [patB, *, List.all_eq_not_any_not]
  · refine ⟨ret_bool ?_, by go_grown⟩
    have : ¬ (xs.length ≤ 10) := by omega
    clear hl
    simp [patB, *]
  · refine ⟨ret_bool ?_, by go_grown⟩
    have : ¬ (n ≤ 32) := by omega
    simp [patB, *]
  · refine ⟨ret_bool ?_, by go_grown⟩
    have : ¬ (1 ≤ n) := by omega
    simp [patB, *]
end Go.Vir

/- Loops over a function: the law of one range statement. No program. -/
namespace Go.Vir
open Go Go.RowKit

def isData : Obj → Bool
  | .cells .. => true
  | .map .. => true
  | _ => false

/-- Between A and B only new blocks and the blocks of O have changed. -/
structure Apart (O : Nat → Prop) (A B : World) : Prop where
  os : B.os = A.os
  tape : B.tape = A.tape
  output : B.output = A.output
  size : A.heap.size ≤ B.heap.size
  block : ∀ k : Nat, k < A.heap.size → ¬ O k → B.heap[k]? = A.heap[k]?

/-- Likewise, and what is no data from B0 on may have changed. -/
structure Moves (B0 : Nat) (O : Nat → Prop) (A B : World) : Prop where
  os : B.os = A.os
  tape : B.tape = A.tape
  output : B.output = A.output
  size : A.heap.size ≤ B.heap.size
  low : ∀ k : Nat, k < B0 → ¬ O k → B.heap[k]? = A.heap[k]?
  data : ∀ (k : Nat) (o : Obj), A.heap[k]? = some o → isData o = true → ¬ O k → B.heap[k]? = some o

/-- What a round keeps. -/
structure Keeps (B0 : Nat) (O : Nat → Prop) (A B : World) : Prop where
  size : A.heap.size ≤ B.heap.size
  low : ∀ k : Nat, k < B0 → B.heap[k]? = A.heap[k]?
  own : ∀ k : Nat, O k → B.heap[k]? = A.heap[k]?
  other : ∀ (k : Nat) (o : Obj), A.heap[k]? = some o → isData o = false → B.heap[k]? = some o

section
variable {B0 : Nat} {O : Nat → Prop} {A B C : World}

theorem Apart.refl (O : Nat → Prop) (A : World) : Apart O A A := ⟨rfl, rfl, rfl, Nat.le_refl _, fun _ _ _ => rfl⟩
theorem Apart.trans (h : Apart O A B) (k : Apart O B C) : Apart O A C :=
  ⟨k.os.trans h.os, k.tape.trans h.tape, k.output.trans h.output, Nat.le_trans h.size k.size, fun i hi ho => (k.block i (Nat.lt_of_lt_of_le hi h.size) ho).trans (h.block i hi ho)⟩
theorem Apart.below (h : Below A.heap.size A B) : Apart O A B := ⟨h.os, h.tape, h.output, h.size, fun k hk _ => h.block k hk⟩
theorem Apart.alloc (A : World) (o : Obj) : Apart O A (A.alloc o) := Apart.below ((Below.refl _ A).alloc (Nat.le_refl _) o)
theorem Apart.drew (A : World) : Apart O A A.drew := Apart.below (Below.refl _ A).drew
theorem Apart.setCell (A : World) {p : Addr} (hp : O p.block) (u : Value) : Apart O A (A.setCell p u) :=
  ⟨rfl, rfl, rfl, by simp [World.setCell], fun k _ ho => Below.heap_setCell _ _ _ _ (fun e => ho (e ▸ hp))⟩

theorem Moves.refl (B0 : Nat) (O : Nat → Prop) (A : World) : Moves B0 O A A := ⟨rfl, rfl, rfl, Nat.le_refl _, fun _ _ _ => rfl, fun _ _ h _ _ => h⟩
theorem Moves.trans (h : Moves B0 O A B) (k : Moves B0 O B C) : Moves B0 O A C :=
  ⟨k.os.trans h.os, k.tape.trans h.tape, k.output.trans h.output, Nat.le_trans h.size k.size, fun i hi ho => (k.low i hi ho).trans (h.low i hi ho),
   fun i o hi hd ho => k.data i o (h.data i o hi hd ho) hd ho⟩
theorem Apart.moves (h : Apart O A B) (hB : B0 ≤ A.heap.size) : Moves B0 O A B :=
  ⟨h.os, h.tape, h.output, h.size, fun k hk ho => h.block k (by omega) ho, fun k o hk _ ho => (h.block k (Array.getElem?_eq_some_iff.1 hk).1 ho).trans hk⟩
theorem Moves.putObj {l : Nat} {o o' : Obj} (hl : B0 ≤ l) (h : A.heap[l]? = some o) (ho : isData o = false) : Moves B0 O A (A.putObj l o') :=
  ⟨rfl, rfl, rfl, by simp, fun k hk _ => World.putObj_heap_other (by omega), fun k o2 hk hd _ => by
    by_cases e : k = l
    · subst e; rw [h] at hk; cases hk; rw [ho] at hd; cases hd
    · rw [World.putObj_heap_other e]; exact hk⟩

theorem Keeps.refl (B0 : Nat) (O : Nat → Prop) (A : World) : Keeps B0 O A A := ⟨Nat.le_refl _, fun _ _ => rfl, fun _ _ => rfl, fun _ _ h _ => h⟩
theorem Keeps.less {O' : Nat → Prop} (h : Keeps B0 O A B) (hO : ∀ k, O' k → O k) : Keeps B0 O' A B := ⟨h.size, h.low, fun k hk => h.own k (hO k hk), h.other⟩
theorem Keeps.trans (h : Keeps B0 O A B) (k : Keeps B0 O B C) : Keeps B0 O A C :=
  ⟨Nat.le_trans h.size k.size, fun i hi => (k.low i hi).trans (h.low i hi), fun i hi => (k.own i hi).trans (h.own i hi), fun i o hi hd => k.other i o (h.other i o hi hd) hd⟩
theorem Keeps.below (hO : ∀ k, O k → k < A.heap.size) (hB : B0 ≤ A.heap.size) (h : Below A.heap.size A B) : Keeps B0 O A B :=
  ⟨h.size, fun k hk => h.block k (by omega), fun k hk => h.block k (hO k hk), fun k o hk _ => (h.block k (Array.getElem?_eq_some_iff.1 hk).1).trans hk⟩
theorem Keeps.setCell (A : World) {p : Addr} (hp : ¬ O p.block) (hB : B0 ≤ p.block) (u : Value) : Keeps B0 O A (A.setCell p u) :=
  ⟨by simp [World.setCell], fun k hk => Below.heap_setCell _ _ _ _ (by omega), fun k hk => Below.heap_setCell _ _ _ _ (fun e => hp (e ▸ hk)), fun k o hk hd => by
    by_cases e : k = p.block
    · subst e
      simp only [World.setCell, Array.getElem?_modify, if_true, hk, Option.map_some]
      cases o <;> first | rfl | (simp [isData] at hd)
    · exact (Below.heap_setCell _ _ _ _ e).trans hk⟩
theorem Keeps.grown {row : Option Nat} (hO : ∀ k, O k → k < A.heap.size) (hB : B0 ≤ A.heap.size) (hg : A.grownBy B row)
    (hr : ∀ k, row = some k → B0 ≤ k ∧ ¬ O k ∧ ∃ o, A.heap[k]? = some o ∧ isData o = true) : Keeps B0 O A B :=
  ⟨hg.size, fun k hk => hg.block k (by omega) (fun e => by have := (hr k e.symm).1; omega), fun k hk => hg.block k (hO k hk) (fun e => (hr k e.symm).2.1 hk),
   fun k o hk hd => (hg.block k (Array.getElem?_eq_some_iff.1 hk).1 (fun e => by
     obtain ⟨_, _, o', h1, h2⟩ := hr k e.symm
     rw [hk] at h1; cases h1; rw [hd] at h2; cases h2)).trans hk⟩
end

/-- The contract of an iterator: N rounds, round i with 'encs i'; it writes the blocks of O alone. -/
def Iter (P : Program) (gf : Nat) (lb : Array Value) (N : Nat) (encs : Nat → Array Value) (O : Nat → Prop) (B0 : Nat) (W0 : World) : Prop :=
  ∀ (l : Nat) (J Jx : Nat → World → Prop) (W : World), Below W0.heap.size W0 W →
    (∀ i A B, J i A → Apart O A B → J i B) → (∀ i A B, Jx i A → Apart O A B → Jx i B) →
    (∀ i W, i < N → J i W → YieldAt Fence.wide 0 P l (encs i) W fun e W' =>
      (e = .returned (.bool true) ∧ J (i + 1) W' ∧ Keeps B0 O W W') ∨ (e = .returned (.bool false) ∧ Jx i W')) →
    J 0 W → CallsIn Fence.wide 0 P gf (#[.func (.yield l) #[] #[]] ++ lb) W fun e W' => (∃ v, e = .returned v) ∧ (J N W' ∨ ∃ i, i < N ∧ Jx i W')

/-- How a round's body may be left. -/
def roundEnd (B0 : Nat) (O : Nat → Prop) (I : Nat → World → Prop) (Ix : Nat → Code → World → Prop) (i : Nat) (W : World) : Exit → Act → World → Prop
  | .normal, _, W' => Keeps B0 O W W' ∧ I (i + 1) W'
  | .ret, _, W' => Keeps B0 O W W' ∧ Ix i .ret W'
  | .exit id, _, W' => Keeps B0 O W W' ∧ Ix i (.exit id) W'
  | .goto t, _, W' => Keeps B0 O W W' ∧ Ix i (.goto t) W'
  | .panic _, _, _ => False
  | .outgrown, _, _ => False

theorem range_law {P : Program} {g : Operand} {ps : Array Tmp} {assign body : Code} {Q : Exit → Act → World → Prop} {a : Act} {w : World}
    {gf : Nat} {lb : Array Value} {N : Nat} {encs : Nat → Array Value} {O : Nat → Prop} {B0 : Nat} {W0 : World}
    (hg : a.eval g = .func (.func gf) #[] lb) (eg : ∀ args w, (callFunc gf args).run P w = .ok (.enter gf args) w)
    (hit : Iter P gf lb N encs O B0 W0) (hb0 : Below W0.heap.size W0 w) (hO : ∀ k, O k → k < w.heap.size) (hB0 : B0 ≤ w.heap.size)
    (hps : ∀ i, (encs i).size = ps.size)
    (I : Nat → World → Prop) (Ix : Nat → Code → World → Prop)
    (hI : ∀ i A B, I i A → Moves B0 O A B → I i B) (hIx : ∀ i c A B, Ix i c A → Moves B0 O A B → Ix i c B) (h0 : I 0 w) (a₁ : Nat → Act)
    (hassign : ∀ (l i : Nat) (W : World) (K : Act → World → Prop), K (a₁ i) W →
      assign.wpIn (Fence.wide.inRound l) 0 P (Exit.then K (fun _ _ _ => False)) { tmps := (ps.zip (encs i)).foldl (fun t (p, v) => t.setIfInBounds p v) a.tmps, defers := [] } W)
    (hbody : ∀ (l i : Nat) (W : World), i < N → I i W → w.heap.size ≤ W.heap.size → body.wpIn (Fence.wide.inRound l) 0 P (roundEnd B0 O I Ix i W) (a₁ i) W)
    (hdone : ∀ (D : Nat) (W : World), w.heap.size ≤ D → I N W → W.heap[D]? = some (.deferred (some [])) → Q .normal { a with defers := { target := .collected D, args := #[] } :: a.defers } W)
    (hstop : ∀ (D i : Nat) (c : Code) (W : World), w.heap.size ≤ D → i < N → Ix i c W → W.heap[D]? = some (.deferred (some [])) → c.wpIn Fence.wide 0 P Q { a with defers := { target := .collected D, args := #[] } :: a.defers } W) :
    (Code.rangeFunc g ps assign body).wpIn Fence.wide 0 P Q a w := by
  refine wpIn_rangeFunc ?_
  intro fn hfn
  obtain ⟨rec, hrec⟩ : ∃ rec : LoopState → Option Code → Loop, rec = fun st pe => { state := st, pending := pe, fn, tmps := a.tmps, params := ps, assign, body, defers := w.heap.size } := ⟨_, rfl⟩
  obtain ⟨W1, hW1⟩ : ∃ W1, (w.alloc (.deferred (some []))).alloc (.loop (rec .ready none)) = W1 := ⟨_, rfl⟩
  have hL1 : W1.heap[w.heap.size + 1]? = some (.loop (rec .ready none)) := by
    rw [← hW1]; have := World.alloc_heap_new (w.alloc (.deferred (some []))) (.loop (rec .ready none)); rwa [World.size_alloc] at this
  have hK1 : W1.heap[w.heap.size]? = some (.deferred (some [])) := by
    rw [← hW1]; exact (Below.heap_alloc _ _ _ (by simp)).trans (World.alloc_heap_new w _)
  have hsz : W1.heap.size = w.heap.size + 2 := by rw [← hW1]; simp
  have hbw : Below w.heap.size w W1 := by rw [← hW1]; exact ((Below.refl _ w).alloc (Nat.le_refl _) _).alloc (by simp) _
  have hI1 : I 0 W1 := hI _ _ _ h0 ((Apart.below hbw).moves hB0)
  have hb1 : Below W0.heap.size W0 W1 := hb0.trans (hbw.mono hb0.size)
  refine ⟨w.heap.size + 1, [{ target := .collected w.heap.size, args := #[] }], W1, { target := .fn (.func gf) lb, args := #[.func (.yield (w.heap.size + 1)) #[] #[]] }, W1, gf,
    #[.func (.yield (w.heap.size + 1)) #[] #[]] ++ lb, W1, ?_, ?_, ?_, ?_, fun _ => by simp [Fence.wide] at *, ?_⟩
  · rw [← hW1, hrec]; exact run_enterLoop_outer _ _ _ _ _
  · simp only [resolve, hg]
    simp [go_sem]
  · intro f' _; trivial
  · simp [invoke, go_sem, eg]
  · have hnO : ∀ k, w.heap.size ≤ k → ¬ O k := fun k hk ho => by have := hO k ho; omega
    refine (hit (w.heap.size + 1)
      (fun i W => I i W ∧ W.heap[w.heap.size + 1]? = some (.loop (rec .ready none)) ∧ W.heap[w.heap.size]? = some (.deferred (some [])))
      (fun i W => ∃ c, Ix i c W ∧ W.heap[w.heap.size + 1]? = some (.loop (rec .done (some c))) ∧ W.heap[w.heap.size]? = some (.deferred (some [])))
      W1 hb1 ?_ ?_ ?_ ⟨hI1, hL1, hK1⟩).mono ?_
    · rintro i A B ⟨h1, h2, h3⟩ hap
      have hs := (Array.getElem?_eq_some_iff.1 h2).1
      exact ⟨hI _ _ _ h1 (hap.moves (by omega)), (hap.block _ hs (hnO _ (by omega))).trans h2, (hap.block _ (by omega) (hnO _ (by omega))).trans h3⟩
    · rintro i A B ⟨c, h1, h2, h3⟩ hap
      have hs := (Array.getElem?_eq_some_iff.1 h2).1
      exact ⟨c, hIx _ _ _ _ h1 (hap.moves (by omega)), (hap.block _ hs (hnO _ (by omega))).trans h2, (hap.block _ (by omega) (hnO _ (by omega))).trans h3⟩
    · rintro i W hi ⟨hi0, hl, hk⟩
      have hlt : w.heap.size + 1 < W.heap.size := (Array.getElem?_eq_some_iff.1 hl).1
      have hy := run_yield (P := P) (args := encs i) hl (by rw [hrec]; exact hps i)
      rw [hrec] at hy
      refine ⟨fn, _, assign, body, hy, roundIn_of_wpIn hfn (hassign _ i W _ ⟨_, run_beginRound hl (by rw [hrec]), ?_⟩)⟩
      have hl2 : (W.putObj (w.heap.size + 1) (.loop { rec .ready none with state := .busy })).heap[w.heap.size + 1]? = some (.loop { rec .ready none with state := .busy }) := World.putObj_heap_same hlt
      have hk2 : (W.putObj (w.heap.size + 1) (.loop { rec .ready none with state := .busy })).heap[w.heap.size]? = some (.deferred (some [])) := (World.putObj_heap_other (by omega)).trans hk
      refine wpIn_mono (hbody _ i _ hi (hI _ _ _ hi0 (Moves.putObj (by omega) hl rfl)) (by simp; omega)) ?_
      have fin : ∀ (jump : Option Code) (W3 : World), Keeps B0 O (W.putObj (w.heap.size + 1) (.loop { rec .ready none with state := .busy })) W3 →
          (Instr.endRound (w.heap.size + 1) jump).run P W3 = .ok (.bool jump.isNone) (W3.putObj (w.heap.size + 1) (.loop (rec (if jump.isNone then .ready else .done) jump))) ∧
          W3.heap[w.heap.size + 1]? = some (.loop { rec .ready none with state := .busy }) ∧
          (W3.putObj (w.heap.size + 1) (.loop (rec (if jump.isNone then .ready else .done) jump))).heap[w.heap.size + 1]? = some (.loop (rec (if jump.isNone then .ready else .done) jump)) ∧
          (W3.putObj (w.heap.size + 1) (.loop (rec (if jump.isNone then .ready else .done) jump))).heap[w.heap.size]? = some (.deferred (some [])) := fun jump W3 hk3 => by
        have hl3 := hk3.other _ _ hl2 rfl
        have := run_endRound (P := P) jump hl3
        rw [hrec] at this ⊢
        exact ⟨this, by rw [hrec] at hl3; exact hl3, World.putObj_heap_same (Array.getElem?_eq_some_iff.1 hl3).1, (World.putObj_heap_other (by omega)).trans (hk3.other _ _ hk2 rfl)⟩
      rintro e a3 W3 hp
      cases e with
      | normal =>
        obtain ⟨hk3, hi3⟩ := hp
        obtain ⟨hr, hl3, hl4, hk4⟩ := fin none W3 hk3
        refine ⟨_, _, hr, .inl ⟨rfl, ⟨hI _ _ _ hi3 (Moves.putObj (by omega) hl3 rfl), hl4, hk4⟩, ?_⟩⟩
        have hs3 : w.heap.size + 1 < W3.heap.size := (Array.getElem?_eq_some_iff.1 hl3).1
        refine ⟨by have := hk3.size; simp at this ⊢; omega, fun k hk => ?_, fun k hk => ?_, fun k o ho hd => ?_⟩
        · rw [World.putObj_heap_other (by omega), hk3.low k hk, World.putObj_heap_other (by omega)]
        · have := hO k hk
          rw [World.putObj_heap_other (by omega), hk3.own k hk, World.putObj_heap_other (by omega)]
        · by_cases e : k = w.heap.size + 1
          · subst e; rw [hl] at ho; cases ho; exact hl4
          · rw [World.putObj_heap_other e]
            exact hk3.other k o (by rw [World.putObj_heap_other e]; exact ho) hd
      | ret =>
        obtain ⟨hk3, hi3⟩ := hp
        obtain ⟨hr, hl3, hl4, hk4⟩ := fin (some .ret) W3 hk3
        exact ⟨_, _, hr, .inr ⟨rfl, .ret, hIx _ _ _ _ hi3 (Moves.putObj (by omega) hl3 rfl), hl4, hk4⟩⟩
      | exit id =>
        obtain ⟨hk3, hi3⟩ := hp
        obtain ⟨hr, hl3, hl4, hk4⟩ := fin (some (.exit id)) W3 hk3
        exact ⟨_, _, hr, .inr ⟨rfl, .exit id, hIx _ _ _ _ hi3 (Moves.putObj (by omega) hl3 rfl), hl4, hk4⟩⟩
      | goto t =>
        obtain ⟨hk3, hi3⟩ := hp
        obtain ⟨hr, hl3, hl4, hk4⟩ := fin (some (.goto t)) W3 hk3
        exact ⟨_, _, hr, .inr ⟨rfl, .goto t, hIx _ _ _ _ hi3 (Moves.putObj (by omega) hl3 rfl), hl4, hk4⟩⟩
      | panic ch => exact hp.elim
      | outgrown => exact hp.elim
    · rintro e W2 ⟨⟨v, rfl⟩, (⟨hi, hl, hk⟩ | ⟨i, hiN, c, hi, hl, hk⟩)⟩
      · exact ⟨none, _, by have := run_endLoop (P := P) hl (by rw [hrec]; simp); rw [hrec] at this; exact this, hdone _ _ (Nat.le_refl _) (hI _ _ _ hi (Moves.putObj (by omega) hl rfl)) ((World.putObj_heap_other (by omega)).trans hk)⟩
      · exact ⟨some c, _, by have := run_endLoop (P := P) hl (by rw [hrec]; simp); rw [hrec] at this; exact this, hstop _ i c _ (Nat.le_refl _) hiN (hIx _ _ _ _ hi (Moves.putObj (by omega) hl rfl)) ((World.putObj_heap_other (by omega)).trans hk)⟩

/-- The world gets a name of its own. -/
theorem wp_gen {P : Program} {c : Code} {Q : Exit → Act → World → Prop} {a : Act} {w : World} (h : ∀ W, W = w → c.wp P Q a W) : c.wp P Q a w := h w rfl

theorem heap_new {w : World} {o : Obj} {k : Nat} (h : k = w.heap.size) : (w.alloc o).heap[k]? = some o := by
  subst h; exact World.alloc_heap_new w o
theorem heap_old {w : World} {o : Obj} {k : Nat} (h : k < w.heap.size) : (w.alloc o).heap[k]? = w.heap[k]? := Below.heap_alloc w o k h
theorem heap_drew (w : World) (k : Nat) : w.drew.heap[k]? = w.heap[k]? := rfl
theorem heap_laws : (∀ {w : World} {o : Obj} {k : Nat}, k = w.heap.size → (w.alloc o).heap[k]? = some o) ∧ (∀ {w : World} {o : Obj} {k : Nat}, k < w.heap.size → (w.alloc o).heap[k]? = w.heap[k]?) ∧
    (∀ (w : World) (k : Nat), w.drew.heap[k]? = w.heap[k]?) := ⟨heap_new, heap_old, heap_drew⟩
theorem heap_alloc_if (w : World) (o : Obj) (k : Nat) : (w.alloc o).heap[k]? = if k = w.heap.size then some o else w.heap[k]? := by
  show (w.heap.push o)[k]? = _
  rw [Array.getElem?_push]

theorem Below.moves {B B0 : Nat} {O : Nat → Prop} {w A C : World} (h : Below B w A) (hm : Moves B0 O A C) (hB : B ≤ B0) (hO : ∀ k, O k → B ≤ k) : Below B w C :=
  ⟨hm.os.trans h.os, hm.tape.trans h.tape, hm.output.trans h.output, Nat.le_trans h.size hm.size, fun k hk => (hm.low k (by omega) (fun ho => by have := hO k ho; omega)).trans (h.block k hk)⟩
theorem Moves.cells {B0 : Nat} {O : Nat → Prop} {A C : World} (hm : Moves B0 O A C) {k : Nat} {cs : Array Value} {t : TypeId} {m : Nat × Nat} (h : A.heap[k]? = some (.cells cs t m)) (hk : ¬ O k) : C.heap[k]? = some (.cells cs t m) :=
  hm.data _ _ h rfl hk

/-- append onto a row of the call's own, in a round; it says where the new row lies. -/
theorem wpListIn_append_at {F : Fence} {n : Nat} {P : Program} (w : World) {ops : Array Oper} {rest : List Oper} {o : Oper} {a : Act} {Q : Exit → Act → World → Prop}
    (hg : o.guard = none) (s x : Operand) (t : TypeId) (hop : o.op = Op.call { callee := Callee.builtin Builtin.append, args := #[s, x], argTypes := #[t, t] })
    (base : Nat) (e : TypeId) (i : TypeInfo) (z : Value) (size bytes : Nat) (h1 : P.underlying t = some (.slice e)) (h2 : P.info? e = some i) (h3 : i.zero = some z) (h4 : i.size = size) (h5 : i.bytes = bytes) (h6 : z.cells.size = size) (h7 : 0 < size)
    (v : Value) (k : Nat) (xs : List Value) (hs : a.eval s = v) (hown : w.ownsRow base e size v k xs) (ad : Addr) (m c : Nat) (news : List Value) (hx : a.eval x = .slice (some ad) m c) (hn : news.length = m * size)
    (hc : ∀ (j : Nat) (u : Value), news[j]? = some u → w.cell? (ad.add j) = some u) (h1c : ∀ u ∈ news, u.oneCell' = true) (b1 : k + m ≤ maxLen) (b2 : (k + m) * bytes ≤ 140737488355328) (b3 : base ≤ w.heap.size)
    (hK : ∀ v' w', w'.ownsRow base e size v' (k + m) (xs ++ news) → w.grownBy w' v.ownBlock → (v'.ownBlock = v.ownBlock ∨ v'.ownBlock = some w.heap.size) → wpListIn F n P ops Q rest (a.put o.dst v') w') :
    wpListIn F n P ops Q (o :: rest) a w := by
  refine wpListIn_plain hg fun K hK' => ?_
  obtain ⟨v', w', hrun, r1, r2, _, r3⟩ := run_append_own_at (P := P) w base t o.type e i z size bytes h1 h2 h3 h4 h5 h6 h7 v k xs hown ad m c news hn hc h1c b1 b2 b3
  unfold Oper.wpIn
  refine ⟨?_, ?_⟩
  · simp [Oper.about, hop, resolve, Target.leads, Sem.run_pure]
  · rw [Oper.semAt_plain F _ _ (by rw [hop]; intro c hc'; cases hc')]
    simp [execOp, hop, resolve, invoke, builtin, hs, hx, hrun, Result.andThen]
    exact hK' _ _ (hK v' w' r1 r2 r3)

/-- The same outside a round. -/
theorem wpList_append_at {P : Program} (w : World) {ops : Array Oper} {rest : List Oper} {o : Oper} {a : Act} {Q : Exit → Act → World → Prop}
    (hg : o.guard = none) (s x : Operand) (t : TypeId) (hop : o.op = Op.call { callee := Callee.builtin Builtin.append, args := #[s, x], argTypes := #[t, t] })
    (base : Nat) (e : TypeId) (i : TypeInfo) (z : Value) (size bytes : Nat) (h1 : P.underlying t = some (.slice e)) (h2 : P.info? e = some i) (h3 : i.zero = some z) (h4 : i.size = size) (h5 : i.bytes = bytes) (h6 : z.cells.size = size) (h7 : 0 < size)
    (v : Value) (k : Nat) (xs : List Value) (hs : a.eval s = v) (hown : w.ownsRow base e size v k xs) (ad : Addr) (m c : Nat) (news : List Value) (hx : a.eval x = .slice (some ad) m c) (hn : news.length = m * size)
    (hc : ∀ (j : Nat) (u : Value), news[j]? = some u → w.cell? (ad.add j) = some u) (h1c : ∀ u ∈ news, u.oneCell' = true) (b1 : k + m ≤ maxLen) (b2 : (k + m) * bytes ≤ 140737488355328) (b3 : base ≤ w.heap.size)
    (hK : ∀ v' w', w'.ownsRow base e size v' (k + m) (xs ++ news) → w.grownBy w' v.ownBlock → (v'.ownBlock = v.ownBlock ∨ v'.ownBlock = some w.heap.size) → wpList P ops Q rest (a.put o.dst v') w') :
    wpList P ops Q (o :: rest) a w := by
  refine wpList_plain hg fun K hK' => ?_
  obtain ⟨v', w', hrun, r1, r2, _, r3⟩ := run_append_own_at (P := P) w base t o.type e i z size bytes h1 h2 h3 h4 h5 h6 h7 v k xs hown ad m c news hn hc h1c b1 b2 b3
  unfold Oper.wp
  simp [execOp, hop, resolve, invoke, builtin, hs, hx, hrun, Result.andThen]
  exact hK' _ _ (hK v' w' r1 r2 r3)

theorem row_data {W : World} {base : Nat} {e : TypeId} {size : Nat} {v : Value} {k : Nat} {xs : List Value} (h : W.ownsRow base e size v k xs) : ∀ g, v.ownBlock = some g → base ≤ g ∧ ∃ o, W.heap[g]? = some o ∧ isData o = true := by
  intro g hg
  rcases h.2 with ⟨rfl, _⟩ | ⟨g', cap, cur, rfl, hb, hgb, _⟩
  · simp [Value.ownBlock] at hg
  · obtain rfl : g' = g := by simpa [Value.ownBlock] using hg
    exact ⟨hb, _, hgb, rfl⟩

/-- Behind 'out = append(out, ..)' in a round, out in a box. -/
theorem boxed_appendedK {W w1 : World} {O : Nat → Prop} {n₀ B : Nat} {t e : TypeId} {size : Nat} {v v' : Value} {k m : Nat} {xs ys : List Value} {tmp : Obj}
    (hv : Boxed W B t v) (hte : t ≠ e) (hrow : W.ownsRow n₀ e size v k xs) (hn₀ : n₀ ≤ W.heap.size) (hB : n₀ ≤ B) (hBO : ¬ O B) (hO : ∀ k, O k → k < W.heap.size) (hgO : ∀ g, v.ownBlock = some g → ¬ O g)
    (hown' : w1.ownsRow n₀ e size v' m ys) (hgrow : (W.alloc tmp).grownBy w1 v.ownBlock) (hat : v'.ownBlock = v.ownBlock ∨ v'.ownBlock = some (W.alloc tmp).heap.size) :
    Boxed w1 B t v ∧ Boxed (w1.setCell ⟨B, 0, none⟩ v') B t v' ∧ (w1.setCell ⟨B, 0, none⟩ v').ownsRow n₀ e size v' m ys ∧ Keeps n₀ O W (w1.setCell ⟨B, 0, none⟩ v') ∧ Below n₀ W (w1.setCell ⟨B, 0, none⟩ v') ∧ (∀ g, v'.ownBlock = some g → ¬ O g) := by
  obtain ⟨a1, a2, a3, _, a5⟩ := hv.appended hte hrow hn₀ hB hown' hgrow
  refine ⟨a1, a2, a3, ?_, a5, fun g hg => ?_⟩
  · refine ((Keeps.below hO hn₀ ((Below.refl _ W).alloc (Nat.le_refl _) tmp)).trans (Keeps.grown (fun k hk => by have := hO k hk; simp; omega) (by simp; omega) hgrow fun g hg => ?_)).trans (Keeps.setCell _ hBO hB _)
    obtain ⟨h1, h2⟩ := row_data (hrow.alloc tmp) g hg
    exact ⟨h1, hgO g hg, h2⟩
  · rcases hat with h | h
    · exact hgO g (by rw [← h]; exact hg)
    · rw [h] at hg
      intro ho
      have := hO g ho
      simp at hg
      omega

theorem ownsRow_moves {W W' : World} {B0 : Nat} {O : Nat → Prop} {e : TypeId} {size : Nat} {v : Value} {k base : Nat} {xs : List Value} (h : W.ownsRow base e size v k xs) (hm : Moves B0 O W W') (hgO : ∀ g, v.ownBlock = some g → ¬ O g) : W'.ownsRow base e size v k xs := by
  refine ⟨h.1, ?_⟩
  rcases h.2 with h2 | ⟨g, cap, cur, rfl, hb, hgb, r⟩
  · exact .inl h2
  · exact .inr ⟨g, cap, cur, rfl, hb, hm.data _ _ hgb rfl (hgO g rfl), r⟩

/-- What an append may take: a slice that reads as news, nil and empty too. -/
structure Src (w : World) (A : Option Addr) (m : Nat) (news : List Value) : Prop where
  len : news.length = m
  at_ : 0 < m → ∃ b o, A = some ⟨b, o, none⟩ ∧ ∀ (j : Nat) (u : Value), news[j]? = some u → w.cell? ⟨b, o + j, none⟩ = some u

theorem run_append_of_nil {P : Program} (w : World) (base : Nat) (t ty e : TypeId) (i : TypeInfo) (size : Nat) (ht : P.underlying t = some (.slice e)) (hi : P.info? e = some i)
    (v : Value) (n : Nat) (xs : List Value) (hown : w.ownsRow base e size v n xs) (A : Option Addr) (c : Nat) (hA : A = none) : (Builtin.append_ #[t, t] ty #[v, .slice A 0 c]).run P w = .ok v w := by
  subst hA
  rcases hown.2 with ⟨rfl, rfl⟩ | ⟨g, cap, cur, rfl, _, _, hnc, _⟩
  · simp [Builtin.append_, run_underlying ht, sizeOf, typeInfo, hi, Builtin.lenOf, Builtin.firstCells]
  · simp [Builtin.append_, run_underlying ht, sizeOf, typeInfo, hi, Builtin.lenOf, Builtin.firstCells, hnc, storeCells]

/-- append onto a row of the call's own from whatever source. -/
theorem wpList_append_src {P : Program} (w : World) {ops : Array Oper} {rest : List Oper} {o : Oper} {a : Act} {Q : Exit → Act → World → Prop}
    (hg : o.guard = none) (s x : Operand) (t : TypeId) (hop : o.op = Op.call { callee := Callee.builtin Builtin.append, args := #[s, x], argTypes := #[t, t] })
    (base : Nat) (e : TypeId) (i : TypeInfo) (z : Value) (bytes : Nat) (h1 : P.underlying t = some (.slice e)) (h2 : P.info? e = some i) (h3 : i.zero = some z) (h4 : i.size = 1) (h5 : i.bytes = bytes) (h6 : z.cells.size = 1)
    (v : Value) (k : Nat) (xs : List Value) (hs : a.eval s = v) (hown : w.ownsRow base e 1 v k xs) (A : Option Addr) (m c : Nat) (news : List Value) (hx : a.eval x = .slice A m c) (hr : Src w A m news)
    (h1c : ∀ u ∈ news, u.oneCell' = true) (b1 : k + m ≤ maxLen) (b2 : (k + m) * bytes ≤ 140737488355328) (b3 : base ≤ w.heap.size)
    (hK : ∀ v' w', w'.ownsRow base e 1 v' (k + m) (xs ++ news) → w.grownBy w' v.ownBlock → wpList P ops Q rest (a.put o.dst v') w') :
    wpList P ops Q (o :: rest) a w := by
  rcases A with _ | ad
  · have hm : m = 0 := by
      rcases Nat.eq_zero_or_pos m with h0 | h0
      · exact h0
      · obtain ⟨_, _, h, _⟩ := hr.at_ h0; cases h
    subst hm
    have hn : news = [] := List.eq_nil_of_length_eq_zero hr.len
    subst hn
    refine wpList_plain hg fun K hK' => ?_
    unfold Oper.wp
    simp [execOp, hop, resolve, invoke, builtin, hs, hx, run_append_of_nil (P := P) w base t o.type e i 1 h1 h2 v k xs hown none c rfl, Result.andThen]
    exact hK' _ _ (hK v w (by simpa using hown) (World.grownBy.refl w _))
  · refine wpList_append_at w hg s x t hop base e i z 1 bytes h1 h2 h3 h4 h5 h6 (by decide) v k xs hs hown ad m c news hx (by simpa using hr.len) ?_ h1c b1 b2 b3 (fun v' w' a1 a2 _ => hK v' w' a1 a2)
    intro j u hj
    have hm : 0 < m := by
      have := hr.len
      rcases Nat.eq_zero_or_pos m with h0 | h0
      · have : news = [] := List.eq_nil_of_length_eq_zero (by omega)
        subst this; simp at hj
      · exact h0
    obtain ⟨b, o', hA, hc⟩ := hr.at_ hm
    injection hA with hA
    subst hA
    have := hc j u hj
    unfold Addr.add
    split
    · rename_i h0; subst h0; simpa using this
    · exact this

theorem ownsRow_below {W W' : World} {e : TypeId} {size : Nat} {v : Value} {k base : Nat} {xs : List Value} (h : W.ownsRow base e size v k xs) (hb : Below W.heap.size W W') : W'.ownsRow base e size v k xs :=
  ownsRow_moves (B0 := 0) (O := fun _ => False) h ((Apart.below hb).moves (by omega)) (fun _ _ => id)

theorem Keeps.putData {B0 : Nat} {O : Nat → Prop} {A : World} {r : Nat} {o o' : Obj} (h : A.heap[r]? = some o) (hd : isData o = true) (hO : ¬ O r) (hB : B0 ≤ r) : Keeps B0 O A (A.putObj r o') :=
  ⟨by simp, fun k hk => World.putObj_heap_other (by omega), fun k hk => World.putObj_heap_other (fun e => hO (e ▸ hk)), fun k o2 hk hd2 => by
    by_cases e : k = r
    · subst e; rw [h] at hk; cases hk; rw [hd] at hd2; cases hd2
    · rw [World.putObj_heap_other e]; exact hk⟩
theorem below_putObj {B : Nat} {w A : World} {r : Nat} {o : Obj} (h : Below B w A) (hr : B ≤ r) : Below B w (A.putObj r o) :=
  h.trans ⟨rfl, rfl, rfl, by simp, fun k hk => World.putObj_heap_other (by omega)⟩
theorem Moves.dataObj {B0 : Nat} {O : Nat → Prop} {A C : World} (hm : Moves B0 O A C) {k : Nat} {es : Array MapEntry} {c : Nat} (h : A.heap[k]? = some (.map es c)) (hk : ¬ O k) : C.heap[k]? = some (.map es c) :=
  hm.data _ _ h rfl hk
end Go.Vir

/- The walks of the matcher's iterator: list.run and its closure. -/
namespace Go.Vir
open Go Go.RowKit Go.Proofs Go.Shelf
attribute [local go_sem] Oper.semAt_some

/-- How many numbers from a place on lie in a set, one behind the other. -/
def runLen (s : Int) (zs : List Int) (at_ : Nat) : Nat := ((zs.drop at_).takeWhile (bitB s)).length

theorem takeWhile_get {α : Type} (p : α → Bool) : ∀ (l : List α) (i : Nat), i < (l.takeWhile p).length → ∃ h : i < l.length, p l[i] = true
  | [], i, h => absurd h (by simp)
  | x :: xs, i, h => by
    by_cases hx : p x = true
    · cases i with
      | zero => exact ⟨by simp, by simpa using hx⟩
      | succ i =>
        simp only [List.takeWhile_cons, hx, if_true, List.length_cons, Nat.add_lt_add_iff_right] at h
        obtain ⟨h1, h2⟩ := takeWhile_get p xs i h
        exact ⟨by simpa using h1, by simpa using h2⟩
    · simp [hx] at h
theorem takeWhile_stop {α : Type} (p : α → Bool) : ∀ (l : List α) (h : (l.takeWhile p).length < l.length), p l[(l.takeWhile p).length] = false
  | [], h => absurd h (by simp)
  | x :: xs, h => by
    by_cases hx : p x = true
    · simp only [List.takeWhile_cons, hx, if_true, List.length_cons, Nat.add_lt_add_iff_right] at h
      simp only [List.takeWhile_cons, hx, if_true, List.length_cons, List.getElem_cons_succ]
      exact takeWhile_stop p xs h
    · simp [hx]
theorem runLen_lt {s : Int} {zs : List Int} {at_ k : Nat} (h0 : at_ ≤ k) (h : k < at_ + runLen s zs at_) : ∃ hk : k < zs.length, bitB s zs[k] = true := by
  obtain ⟨h1, h2⟩ := takeWhile_get (bitB s) (zs.drop at_) (k - at_) (by unfold runLen at h; omega)
  simp only [List.length_drop] at h1
  refine ⟨by omega, ?_⟩
  have : at_ + (k - at_) = k := by omega
  simpa [this] using h2
theorem runLen_eq {s : Int} {zs : List Int} {at_ : Nat} (h : at_ + runLen s zs at_ < zs.length) : bitB s zs[at_ + runLen s zs at_] = false := by
  have := takeWhile_stop (bitB s) (zs.drop at_) (by simp only [List.length_drop]; unfold runLen at h; omega)
  simpa [runLen] using this
theorem runLen_eq' {s : Int} {zs : List Int} {at_ k : Nat} (hk : k = at_ + runLen s zs at_) (h : k < zs.length) : bitB s zs[k] = false := by
  subst hk; exact runLen_eq h
theorem runLen_le (s : Int) (zs : List Int) (at_ : Nat) (h : at_ ≤ zs.length) : at_ + runLen s zs at_ ≤ zs.length := by
  have := (List.takeWhile_prefix (bitB s) (l := zs.drop at_)).length_le
  simp only [List.length_drop] at this
  unfold runLen; omega

set_option maxHeartbeats 400000 in
theorem run_make (m : Addr) (s a : Int) (w : World) :
    Calls Tryz.prog 284 #[.pointer (some m), .int .i64 s, .int .i64 a] w fun e w' =>
      e = .returned (.func (.func 287) #[] #[.pointer (some ⟨w.heap.size + 2, 0, none⟩), .pointer (some ⟨w.heap.size, 0, none⟩), .pointer (some ⟨w.heap.size + 1, 0, none⟩)]) ∧
      ((w.alloc (.cells #[.pointer (some m)] 376)).alloc (.cells #[.int .i64 s] 2)).alloc (.cells #[.int .i64 a] 3) = w' := by
  go_enter Tryz.func284, Tryz.ntmps284
  go_wp2
  go_ret
  exact ⟨rfl, rfl⟩

set_option maxHeartbeats 400000 in
theorem run_iter (B0 b p q : Nat) (A : Option Addr) (n c : Nat) (zs : List Int) (s : Int) (at_ : Nat) (W0 : World)
    (hp : p < B0) (hb : B0 ≤ b) (hsz : b + 3 ≤ W0.heap.size) (hn : n ≤ 1000000) (hat : at_ ≤ n)
    (c0 : W0.heap[b]? = some (.cells #[.pointer (some ⟨p, q, none⟩)] 376 (0, 0))) (c1 : W0.heap[b + 1]? = some (.cells #[.int .i64 s] 2 (0, 0)))
    (c2 : W0.heap[b + 2]? = some (.cells #[.int .i64 at_] 3 (0, 0))) (cp : W0.cell? ⟨p, q, none⟩ = some (.slice A n c)) (hz : Ints W0 B0 A n zs) :
    Iter Tryz.prog 287 #[.pointer (some ⟨b + 2, 0, none⟩), .pointer (some ⟨b, 0, none⟩), .pointer (some ⟨b + 1, 0, none⟩)]
      (runLen s zs at_) (fun i => #[.int .i64 ((at_ + i + 1 : Nat) : Int)]) (fun k => b ≤ k ∧ k < b + 3) B0 W0 := by
  intro l J Jx W hW hJ hJx hY h0
  have hlen := hz.len
  have hrl := runLen_le s zs at_ (by omega)
  refine callsIn_wide.2 ?_
  go_enter Tryz.func287, Tryz.ntmps287
  go_step3
  go_wp2
  go_step3
  go_wp2
  go_loopw [] (fun wr => ∃ k, at_ ≤ k ∧ k ≤ at_ + runLen s zs at_ ∧ J (k - at_) wr ∧ wr.heap[b]? = some (.cells #[.pointer (some ⟨p, q, none⟩)] 376 (0, 0)) ∧ wr.heap[b + 1]? = some (.cells #[.int .i64 s] 2 (0, 0)) ∧
     wr.heap[b + 2]? = some (.cells #[.int .i64 (k : Int)] 3 (0, 0)) ∧ wr.cell? ⟨p, q, none⟩ = some (.slice A n c) ∧ Ints wr B0 A n zs) (fun wr => runLen s zs at_ + at_ - (intOf ((wr.cell? ⟨b + 2, 0, none⟩).getD .nilIface)).toNat)
  case atStart =>
    have hW' := hW.mono (show B0 ≤ W0.heap.size by omega)
    exact ⟨at_, Nat.le_refl _, by omega, by simpa using h0, (hW.block _ (by omega)).trans c0, (hW.block _ (by omega)).trans c1, (hW.block _ (by omega)).trans c2, (cellOf hW' hp).trans cp, hz.below hW'⟩
  case round =>
    obtain ⟨k, hk1, hk2, hJi, d0, d1, d2, dp, dz⟩ := hrel
    have e0 : wr.cell? ⟨b, 0, none⟩ = some (.pointer (some ⟨p, q, none⟩)) := by simp [World.cell?, d0]
    have e1 : wr.cell? ⟨b + 1, 0, none⟩ = some (.int .i64 s) := by simp [World.cell?, d1]
    have e2 : wr.cell? ⟨b + 2, 0, none⟩ = some (.int .i64 (k : Int)) := by simp [World.cell?, d2]
    rcases Nat.lt_or_ge k (at_ + runLen s zs at_) with hlt | hge
    · obtain ⟨hk, hbit⟩ := runLen_lt hk1 hlt
      obtain ⟨zb, zo, rfl, hzb, hzc⟩ := dz.at_ (by omega)
      have hkn : k < n := by omega
      have hzi := hzc k (by omega)
      have hdec : decide (k < n) = true := by simpa using hkn
      go_wp2
      go_quiet ((go_at_call 237; exact Calls.quiet_of_same ((class_Has _ _ _).mono fun _ _ ⟨h1, h2⟩ => ⟨h1, h2.symm⟩)))
      go_upto_region 2 with (fail)
      refine (wpIn_wide (n := 0)).1 ?_
      have hJ2 : J (k - at_) (wr.drewN nq) := hJ _ _ _ hJi (Apart.below (below_drewN _ _ _))
      have hy := hY (k - at_) _ (by omega) hJ2
      rw [show ((at_ + (k - at_) + 1 : Nat) : Int) = (k : Int) + 1 by omega] at hy
      obtain ⟨fn, tmps, assign, body, hy, hR⟩ := hy
      clear hdec
      gi_wp2
      refine ⟨rfl, hR.mono ?_⟩
      rintro e W' (⟨rfl, hJ', hk'⟩ | ⟨rfl, hJx'⟩)
      · have f0 : W'.heap[b]? = some (.cells #[.pointer (some ⟨p, q, none⟩)] 376 (0, 0)) := (hk'.own _ (by omega)).trans d0
        have f1 : W'.heap[b + 1]? = some (.cells #[.int .i64 s] 2 (0, 0)) := (hk'.own _ (by omega)).trans d1
        have f2 : W'.heap[b + 2]? = some (.cells #[.int .i64 (k : Int)] 3 (0, 0)) := (hk'.own _ (by omega)).trans d2
        have fp : W'.cell? ⟨p, q, none⟩ = some (.slice (some ⟨zb, zo, none⟩) n c) := (World.cell?_of_block (hk'.low p hp)).trans dp
        have fz : Ints W' B0 (some ⟨zb, zo, none⟩) n zs := ⟨hz.len, fun _ => ⟨zb, zo, rfl, hzb, fun j hj => (World.cell?_of_block (hk'.low zb hzb)).trans (hzc j hj)⟩⟩
        have g2 : W'.cell? ⟨b + 2, 0, none⟩ = some (.int .i64 (k : Int)) := by simp [World.cell?, f2]
        have gf : W'.frozen? ⟨b + 2, 0, none⟩ = false := frozen_blk f2 0
        have hJ3 : J (k + 1 - at_) (W'.setCell ⟨b + 2, 0, none⟩ (.int .i64 ((k + 1 : Nat) : Int))) := by
          rw [show k + 1 - at_ = k - at_ + 1 by omega]
          exact hJ _ _ _ hJ' (Apart.setCell _ (by simp) _)
        have hm2 : (W'.setCell ⟨b + 2, 0, none⟩ (.int .i64 ((k : Int) + 1))).cell? ⟨b + 2, 0, none⟩ = some (.int .i64 ((k : Int) + 1)) := by
          simp [World.cell?, World.setCell, Array.getElem?_modify, f2]
        gi_wp2
        go_wp2
        go_roundw
        case rel =>
          refine ⟨k + 1, by omega, by omega, hJ3, ?_, ?_, ?_, ?_, ?_⟩
          · rw [Below.heap_setCell _ _ _ _ (by simp)]; exact f0
          · rw [Below.heap_setCell _ _ _ _ (by simp)]; exact f1
          · simp [World.setCell, Array.getElem?_modify, f2]
          · rw [World.cell?_setCell_other _ _ _ _ (by intro e; injection e; omega)]; exact fp
          · exact ⟨hz.len, fun _ => ⟨zb, zo, rfl, hzb, fun j hj => by rw [World.cell?_setCell_other _ _ _ _ (by intro e; injection e; omega)]; exact (World.cell?_of_block (hk'.low zb hzb)).trans (hzc j hj)⟩⟩
        case measure =>
          rw [hm2, e2]; simp [intOf]; omega
      · gi_wp2
        go_wp2
        simp only [Exit.noGoto]
        go_end0
        exact ⟨⟨_, rfl⟩, .inr ⟨k - at_, by omega, hJx'⟩⟩
    · have hke : k = at_ + runLen s zs at_ := by omega
      have hJf : J (runLen s zs at_) wr := by rw [show runLen s zs at_ = k - at_ by omega]; exact hJi
      rcases Nat.lt_or_ge k n with hlt | hge2
      · have hbit := runLen_eq' hke (by omega)
        obtain ⟨zb, zo, rfl, hzb, hzc⟩ := dz.at_ (by omega)
        have hzi := hzc k (by omega)
        have hdec : decide (k < n) = true := by simpa using hlt
        have Hk := Lib.hid hke
        clear hke
        go_wp2
        go_quiet ((go_at_call 237; exact Calls.quiet_of_same ((class_Has _ _ _).mono fun _ _ ⟨h1, h2⟩ => ⟨h1, h2.symm⟩)))
        have hJg : J (runLen s zs at_) (wr.drewN nq) := hJ _ _ _ hJf (Apart.below (below_drewN _ _ _))
        go_wp2
        simp only [Exit.noGoto]
        go_end0
        exact ⟨⟨_, rfl⟩, .inl hJg⟩
      · have hdec : decide (k < n) = false := by simpa using hge2
        have Hk := Lib.hid hke
        clear hke
        go_wp2
        go_quiet (fail)
        have hJg : J (runLen s zs at_) (wr.drewN nq) := hJ _ _ _ hJf (Apart.below (below_drewN _ _ _))
        go_wp2
        simp only [Exit.noGoto]
        go_end0
        exact ⟨⟨_, rfl⟩, .inl hJg⟩
end Go.Vir

/- The walks of the matcher: once, any, pairs. -/
namespace Go.Vir
open Go Go.RowKit Go.Proofs Go.Shelf
attribute [local go_sem] Oper.semAt_some

/-- The places that one item may end at, from one on. -/
def stepL (s : Int) (h : Int) (zs : List Int) (at_ : Nat) : List Int :=
  if h = 0 then (if 0 < runLen s zs at_ then [((at_ + 1 : Nat) : Int)] else [])
  else if h = 1 then (List.range (runLen s zs at_ + 1)).map fun i => ((at_ + i : Nat) : Int)
  else ((List.range (runLen s zs at_ + 1)).filter fun i => i % 2 == 0).map fun i => ((at_ + i : Nat) : Int)

set_option maxHeartbeats 400000 in
theorem matcher_once (p q : Nat) (A : Option Addr) (n c : Nat) (zs : List Int) (s : Int) (at_ : Nat) (w : World) (hn : n ≤ 1000000) (hat : at_ ≤ n)
    (hp : p < w.heap.size) (cp : w.cell? ⟨p, q, none⟩ = some (.slice A n c)) (hz : Ints w w.heap.size A n zs) :
    Calls Tryz.prog 276 #[.pointer (some ⟨p, q, none⟩), .int .i64 s, .int .i64 (at_ : Int)] w fun e w' =>
      ∃ A' n' c', e = .returned (.slice A' n' c') ∧ Ints w' w'.heap.size A' n' (stepL s 0 zs at_) ∧ Below w.heap.size w w' := by
  refine (callsIn_wide (n := 0)).1 ?_
  refine callsIn_of_wp_marks Tryz.func276 rfl trivial ?_ rfl
  simp only [Tryz.ntmps276, List.size_toArray, List.length_cons, List.length_nil, Nat.reduceAdd, Nat.reduceSub, Array.replicate_succ, Array.replicate_zero, List.push_toArray, List.append_toArray, List.nil_append, List.cons_append]
  refine wpIn_wide.2 ?_
  go_wp2_with (go_at_call 284; refine (run_make _ _ _ _).mono ?_; rintro e w1 ⟨rfl, rfl⟩)
  refine wp_gen ?_
  intro W1 hW1
  have hsz : W1.heap.size = w.heap.size + 4 := by simp [hW1]
  have hb : Below w.heap.size w W1 := by rw [hW1]; go_grown
  have d0 : W1.heap[w.heap.size]? = some (.cells #[.slice none 0 0] 88 (0, 0)) := (by rw [hW1]; simp (disch := (first | omega | (simp only [World.size_alloc]; done) | (simp only [World.size_alloc]; omega))) only [heap_laws])
  have d1 : W1.heap[w.heap.size + 1]? = some (.cells #[.pointer (some ⟨p, q, none⟩)] 376 (0, 0)) := (by rw [hW1]; simp (disch := (first | omega | (simp only [World.size_alloc]; done) | (simp only [World.size_alloc]; omega))) only [heap_laws])
  have d2 : W1.heap[w.heap.size + 1 + 1]? = some (.cells #[.int .i64 s] 2 (0, 0)) := (by rw [hW1]; simp (disch := (first | omega | (simp only [World.size_alloc]; done) | (simp only [World.size_alloc]; omega))) only [heap_laws])
  have d3 : W1.heap[w.heap.size + 1 + 2]? = some (.cells #[.int .i64 at_] 3 (0, 0)) := (by rw [hW1]; simp (disch := (first | omega | (simp only [World.size_alloc]; done) | (simp only [World.size_alloc]; omega))) only [heap_laws])
  clear hW1
  have hlen := hz.len
  refine (wpIn_wide (n := 0)).1 ?_
  refine range_law (a₁ := ?a1) rfl (enters_of Tryz.func287 (by kernel_rfl) rfl) (run_iter w.heap.size (w.heap.size + 1) p q A n c zs s at_ W1 hp (by omega) (by omega) hn hat d1 d2 d3 ((cellOf hb hp).trans cp) (hz.below hb)) (Below.refl _ _)
    (fun k hk => by omega) (by omega) (fun _ => rfl)
    (fun i W => i = 0 ∧ Below w.heap.size w W ∧ W.heap[w.heap.size]? = some (.cells #[.slice none 0 0] 88 (0, 0)))
    (fun i c W => c = .ret ∧ i = 0 ∧ Below w.heap.size w W ∧ ∃ g, w.heap.size + 4 ≤ g ∧ W.heap[w.heap.size]? = some (.cells #[.slice (some ⟨g, 0, none⟩) 1 1] 88 (0, 0)) ∧ W.heap[g]? = some (.cells #[.int .i64 ((at_ + 1 : Nat) : Int)] 3 (0, 0)))
    (fun i X Y hi hm => ⟨hi.1, Below.moves hi.2.1 hm (Nat.le_refl _) (fun k hk => by omega), hm.cells hi.2.2 (by omega)⟩)
    (fun i c X Y hi hm => by
      obtain ⟨h1, h2, h3, g, h4, h5, h6⟩ := hi
      exact ⟨h1, h2, Below.moves h3 hm (Nat.le_refl _) (fun k hk => by omega), g, h4, hm.cells h5 (by omega), hm.cells h6 (by omega)⟩)
    ⟨rfl, hb, d0⟩ ?assign ?body ?done ?stop
  case assign =>
    intro l i W K hK
    gi_wp2
    exact hK
  case body =>
    rintro l i W hi ⟨rfl, hbW, hc0⟩ hsW
    have e0 : W.cell? ⟨w.heap.size, 0, none⟩ = some (.slice none 0 0) := by simp [World.cell?, hc0]
    have e1 : W.frozen? ⟨w.heap.size, 0, none⟩ = false := frozen_blk hc0 0
    have hlt : w.heap.size < W.heap.size := by omega
    gi_wp2
    refine ⟨(Keeps.setCell _ (by simp; omega) (by simp) _).trans (Keeps.below (fun k hk => by simp; omega) (by simp; omega) ((Below.refl _ _).alloc (Nat.le_refl _) _)), rfl, rfl, (hbW.setCell (by simp) _).alloc (by simp; omega) _, W.heap.size, by omega, ?_, ?_⟩
    · rw [heap_old (by simp; omega)]; simp [World.setCell, Array.getElem?_modify, hc0]
    · exact heap_new (by simp)
  case done =>
    rintro D W hD ⟨h1, hbW, hc0⟩ hK
    have e0 : W.cell? ⟨w.heap.size, 0, none⟩ = some (.slice none 0 0) := by simp [World.cell?, hc0]
    have e1 : W.frozen? ⟨w.heap.size, 0, none⟩ = false := frozen_blk hc0 0
    go_wp2
    have hne : w.heap.size ≠ D := by rintro rfl; rw [hc0] at hK; cases hK
    have hK2 : (W.setCell ⟨w.heap.size, 0, none⟩ (.slice none 0 0)).heap[D]? = some (.deferred (some [])) := (Below.heap_setCell _ _ _ _ (Ne.symm hne)).trans hK
    have hc2 : (W.setCell ⟨w.heap.size, 0, none⟩ (.slice none 0 0)).heap[w.heap.size]? = some (.cells #[.slice none 0 0] 88 (0, 0)) := by simp [World.setCell, Array.getElem?_modify, hc0]
    refine ⟨by simp, .inl ⟨_, _, rfl, run_takeDeferred hK2, ?_⟩⟩
    have f1 := cell_blk ((World.putObj_heap_other (o := .deferred none) hne).trans hc2) 0
    refine ⟨.slice none 0 0, by simp [results, Tryz.results276, go_sem, f1], none, 0, 0, rfl, ?_, ?_⟩
    · rw [stepL, if_pos rfl, if_neg (by omega)]; exact Ints.nil _ _ _
    · exact (hbW.setCell (by simp) _).trans ⟨rfl, rfl, rfl, by simp, fun k hk => World.putObj_heap_other (by omega)⟩
  case stop =>
    rintro D i c W hD hi ⟨rfl, rfl, hbW, g, hg, hc0, hc1⟩ hK
    gi_wp2
    refine ⟨by simp, .inl ⟨_, _, rfl, run_takeDeferred hK, ?_⟩⟩
    have hne : w.heap.size ≠ D := by rintro rfl; rw [hc0] at hK; cases hK
    have hne2 : g ≠ D := by rintro rfl; rw [hc1] at hK; cases hK
    have f0 : (W.putObj D (.deferred none)).heap[w.heap.size]? = some (.cells #[.slice (some ⟨g, 0, none⟩) 1 1] 88 (0, 0)) := (World.putObj_heap_other hne).trans hc0
    have f1 : (W.putObj D (.deferred none)).cell? ⟨w.heap.size, 0, none⟩ = some (.slice (some ⟨g, 0, none⟩) 1 1) := by simp [World.cell?, f0]
    have f2 : (W.putObj D (.deferred none)).heap[g]? = some (.cells #[.int .i64 ((at_ + 1 : Nat) : Int)] 3 (0, 0)) := (World.putObj_heap_other hne2).trans hc1
    refine ⟨.slice (some ⟨g, 0, none⟩) 1 1, by simp [results, Tryz.results276, go_sem, f1], _, 1, 1, rfl, ?_, ?_⟩
    · rw [stepL, if_pos rfl, if_pos (by omega)]
      exact ⟨rfl, fun _ => ⟨g, 0, rfl, (Array.getElem?_eq_some_iff.1 f2).1, fun j hj => by
        obtain rfl : j = 0 := by simpa using hj
        simp [World.cell?, f2]⟩⟩
    · exact hbW.trans ⟨rfl, rfl, rfl, by simp, fun k hk => World.putObj_heap_other (by omega)⟩

theorem int_info : (Tryz.prog.info? 3).map (fun i => (i.zero, i.size, i.bytes)) = some (some (.int .i64 0), 1, 8) := by kernel_rfl

theorem stepL_any (s : Int) (zs : List Int) (at_ : Nat) : stepL s 1 zs at_ = (List.range (runLen s zs at_ + 1)).map fun i => ((at_ + i : Nat) : Int) := by
  simp [stepL]

set_option maxHeartbeats 400000 in
theorem matcher_any (p q : Nat) (A : Option Addr) (n c : Nat) (zs : List Int) (s : Int) (at_ : Nat) (w : World) (hn : n ≤ 1000000) (hat : at_ ≤ n)
    (hp : p < w.heap.size) (cp : w.cell? ⟨p, q, none⟩ = some (.slice A n c)) (hz : Ints w w.heap.size A n zs) :
    Calls Tryz.prog 277 #[.pointer (some ⟨p, q, none⟩), .int .i64 s, .int .i64 (at_ : Int)] w fun e w' =>
      ∃ A' n' c', e = .returned (.slice A' n' c') ∧ Ints w' w'.heap.size A' n' (stepL s 1 zs at_) ∧ Below w.heap.size w w' := by
  obtain ⟨i0, hi0, hz0, hz1, hz2⟩ := info_parts int_info
  have hrl := runLen_le s zs at_ (by have := hz.len; omega)
  have hN : runLen s zs at_ ≤ 1000000 := by have := hz.len; omega
  clear hrl
  refine (callsIn_wide (n := 0)).1 ?_
  refine callsIn_of_wp_marks Tryz.func277 rfl trivial ?_ rfl
  simp only [Tryz.ntmps277, List.size_toArray, List.length_cons, List.length_nil, Nat.reduceAdd, Nat.reduceSub, Array.replicate_succ, Array.replicate_zero, List.push_toArray, List.append_toArray, List.nil_append, List.cons_append]
  refine wpIn_wide.2 ?_
  go_wp2_with (go_at_call 284; refine (run_make _ _ _ _).mono ?_; rintro e w1 ⟨rfl, rfl⟩)
  refine wp_gen ?_
  intro W1 hW1
  have hsz : W1.heap.size = w.heap.size + 5 := by simp [hW1]
  have hb : Below w.heap.size w W1 := by rw [hW1]; go_grown
  have d0 : W1.heap[w.heap.size]? = some (.cells #[.int .i64 at_] 3 (0, 0)) := (by rw [hW1]; simp (disch := (first | omega | (simp only [World.size_alloc]; done) | (simp only [World.size_alloc]; omega))) only [heap_laws])
  have d1 : W1.heap[w.heap.size + 1]? = some (.cells #[.slice (some ⟨w.heap.size, 0, none⟩) 1 1] 88 (0, 0)) := (by rw [hW1]; simp (disch := (first | omega | (simp only [World.size_alloc]; done) | (simp only [World.size_alloc]; omega))) only [heap_laws])
  have d2 : W1.heap[w.heap.size + 1 + 1]? = some (.cells #[.pointer (some ⟨p, q, none⟩)] 376 (0, 0)) := (by rw [hW1]; simp (disch := (first | omega | (simp only [World.size_alloc]; done) | (simp only [World.size_alloc]; omega))) only [heap_laws])
  have d3 : W1.heap[w.heap.size + 1 + 1 + 1]? = some (.cells #[.int .i64 s] 2 (0, 0)) := (by rw [hW1]; simp (disch := (first | omega | (simp only [World.size_alloc]; done) | (simp only [World.size_alloc]; omega))) only [heap_laws])
  have d4 : W1.heap[w.heap.size + 1 + 1 + 2]? = some (.cells #[.int .i64 at_] 3 (0, 0)) := (by rw [hW1]; simp (disch := (first | omega | (simp only [World.size_alloc]; done) | (simp only [World.size_alloc]; omega))) only [heap_laws])
  clear hW1
  have hrow0 : W1.ownsRow w.heap.size 3 1 (.slice (some ⟨w.heap.size, 0, none⟩) 1 1) 1 [.int .i64 at_] :=
    ⟨rfl, .inr ⟨w.heap.size, 1, #[.int .i64 at_], rfl, Nat.le_refl _, d0, Nat.le_refl _, by simp [maxLen], rfl, rfl⟩⟩
  refine (wpIn_wide (n := 0)).1 ?_
  refine range_law (a₁ := ?a1) rfl (enters_of Tryz.func287 (by kernel_rfl) rfl) (run_iter w.heap.size (w.heap.size + 1 + 1) p q A n c zs s at_ W1 hp (by omega) (by omega) hn hat d2 d3 d4 ((cellOf hb hp).trans cp) (hz.below hb)) (Below.refl _ _)
    (fun k hk => by omega) (by omega) (fun _ => rfl)
    (fun i W => Below w.heap.size w W ∧ ∃ v, Boxed W (w.heap.size + 1) 88 v ∧ W.ownsRow w.heap.size 3 1 v (i + 1) ((List.range (i + 1)).map fun j => .int .i64 ((at_ + j : Nat) : Int)) ∧ (∀ g, v.ownBlock = some g → ¬ (w.heap.size + 1 + 1 ≤ g ∧ g < w.heap.size + 1 + 1 + 3)))
    (fun i c W => False)
    (fun i X Y hi hm => by
      obtain ⟨h1, v, h2, h3, h4⟩ := hi
      exact ⟨Below.moves h1 hm (Nat.le_refl _) (fun k hk => by omega), v, hm.cells h2 (by omega), ownsRow_moves h3 hm h4, h4⟩)
    (fun i c X Y hi hm => hi)
    ⟨hb, _, d1, hrow0, fun g hg => by simp [Value.ownBlock] at hg; omega⟩ ?assign ?body ?done ?stop
  case assign =>
    intro l i W K hK
    gi_wp2
    exact hK
  case body =>
    rintro l i W hi ⟨hbW, v, hv, hrow, hgO⟩ hsW
    have e0 := hv.cell
    have hlt : w.heap.size + 1 < W.heap.size := by omega
    have hNi : i < 1000000 := by omega
    gi_wp2_with (gi_at_builtin; refine wpListIn_append_at _ rfl _ _ 88 rfl w.heap.size 3 i0 (.int .i64 0) 1 8 Tryz.underlying88 hi0 hz0 hz1 hz2 rfl (by decide) _ _ _ rfl (hrow.alloc _) ⟨W.heap.size, 0, none⟩ 1 1 [.int .i64 ((at_ : Int) + i + 1)] rfl rfl (cell_one_new _ _ _) (by simp [Value.oneCell']) (by simp only [maxLen]; omega) (by omega) (by simp; omega) ?_; intro v' w1 hown' hgrow hat'; obtain ⟨g', cap', rfl⟩ := ownsRow_succ hown'; have hap := boxed_appendedK (O := fun k => w.heap.size + 1 + 1 ≤ k ∧ k < w.heap.size + 1 + 1 + 3) hv (by decide) hrow (by omega) (by omega) (by simp) (fun k (hk : w.heap.size + 1 + 1 ≤ k ∧ k < w.heap.size + 1 + 1 + 3) => by omega) hgO hown' hgrow hat'; obtain ⟨hv1, hv2, hr2, hk2, hb2, hg2⟩ := hap; have hc1 := hv1.cell; have hf1 := hv1.frozen)
    have hL : (List.range (i + 1)).map (fun j => Value.int .i64 ((at_ + j : Nat) : Int)) ++ [.int .i64 ((at_ : Int) + i + 1)] = (List.range (i + 1 + 1)).map fun j => .int .i64 ((at_ + j : Nat) : Int) := by
      rw [List.range_succ (n := i + 1), List.map_append, List.map_singleton, show ((at_ + (i + 1) : Nat) : Int) = (at_ : Int) + i + 1 by omega]
    rw [hL] at hr2
    exact ⟨hk2, hbW.trans hb2, _, hv2, hr2, hg2⟩
  case done =>
    rintro D W hD ⟨hbW, v, hv, hrow, hgO⟩ hK
    have e0 := hv.cell
    obtain ⟨g, cap, rfl⟩ := ownsRow_succ hrow
    go_wp2
    refine ⟨by simp, .inl ⟨_, _, rfl, run_takeDeferred hK, ?_⟩⟩
    refine ⟨_, results_tmp rfl _ _ _, _, _, _, rfl, ?_, ?_⟩
    · have h1 := ownsRow_putObj hrow (.deferred none) hK rfl
      rw [stepL_any]
      exact Ints.of_own (by rw [List.map_map]; exact h1)
    · exact hbW.trans ⟨rfl, rfl, rfl, by simp, fun k hk => World.putObj_heap_other (by omega)⟩
  case stop =>
    rintro D i c W hD hi h hK
    exact h.elim

theorem range_filter_succ (N : Nat) (p : Nat → Bool) : (List.range (N + 1)).filter p = (List.range N).filter p ++ if p N then [N] else [] := by
  rw [List.range_succ, List.filter_append]
  congr 1
  simp [List.filter_cons]
theorem range_filter_zero (N : Nat) : (List.range (N + 1)).filter (fun j => j % 2 == 0) = 0 :: ((List.range N).map (· + 1)).filter (fun j => j % 2 == 0) := by
  rw [List.range_succ_eq_map, List.filter_cons_of_pos (by simp)]
theorem stepL_pairs (s : Int) (zs : List Int) (at_ : Nat) : stepL s 2 zs at_ = ((List.range (runLen s zs at_ + 1)).filter fun i => i % 2 == 0).map fun i => ((at_ + i : Nat) : Int) := by
  simp [stepL]

set_option maxRecDepth 100000 in
set_option maxHeartbeats 400000 in
theorem matcher_pairs (p q : Nat) (A : Option Addr) (n c : Nat) (zs : List Int) (s : Int) (at_ : Nat) (w : World) (hn : n ≤ 1000000) (hat : at_ ≤ n)
    (hp : p < w.heap.size) (cp : w.cell? ⟨p, q, none⟩ = some (.slice A n c)) (hz : Ints w w.heap.size A n zs) :
    Calls Tryz.prog 278 #[.pointer (some ⟨p, q, none⟩), .int .i64 s, .int .i64 (at_ : Int)] w fun e w' =>
      ∃ A' n' c', e = .returned (.slice A' n' c') ∧ Ints w' w'.heap.size A' n' (stepL s 2 zs at_) ∧ Below w.heap.size w w' := by
  obtain ⟨i0, hi0, hz0, hz1, hz2⟩ := info_parts int_info
  have hrl := runLen_le s zs at_ (by have := hz.len; omega)
  have hN : runLen s zs at_ ≤ 1000000 := by have := hz.len; omega
  clear hrl
  refine (callsIn_wide (n := 0)).1 ?_
  refine callsIn_of_wp_marks Tryz.func278 rfl trivial ?_ rfl
  simp only [Tryz.ntmps278, List.size_toArray, List.length_cons, List.length_nil, Nat.reduceAdd, Nat.reduceSub, Array.replicate_succ, Array.replicate_zero, List.push_toArray, List.append_toArray, List.nil_append, List.cons_append]
  refine wpIn_wide.2 ?_
  go_wp2
  refine wp_gen ?_
  intro W0 hW0
  have k0 : W0.heap[w.heap.size]? = some (.cells #[.int .i64 at_] 3 (0, 0)) := (by rw [hW0]; simp (disch := (first | omega | (simp only [World.size_alloc]; done) | (simp only [World.size_alloc]; omega))) only [heap_laws])
  have k1 : W0.heap[w.heap.size + 1]? = some (.cells #[.int .i64 at_] 3 (0, 0)) := (by rw [hW0]; simp (disch := (first | omega | (simp only [World.size_alloc]; done) | (simp only [World.size_alloc]; omega))) only [heap_laws])
  have k2 : W0.heap[w.heap.size + 1 + 1]? = some (.cells #[.slice (some ⟨w.heap.size + 1, 0, none⟩) 1 1] 88 (0, 0)) := (by rw [hW0]; simp (disch := (first | omega | (simp only [World.size_alloc]; done) | (simp only [World.size_alloc]; omega))) only [heap_laws])
  have hsz0 : W0.heap.size = w.heap.size + 3 := by simp [hW0]
  have hb0 : Below w.heap.size w W0 := by rw [hW0]; go_grown
  clear hW0
  have q0 := cell_blk k0 0
  simp only [List.getElem?_toArray, List.getElem?_cons_zero] at q0
  go_still_tail 5, (by kernel_rfl)
  go_wp2_with (go_at_call 284; refine (run_make _ _ _ _).mono ?_; rintro e w1 ⟨rfl, rfl⟩)
  refine wp_gen ?_
  intro W1 hW1
  have hsz : W1.heap.size = w.heap.size + 6 := by simp [hW1, hsz0]
  have hb : Below w.heap.size w W1 := hb0.trans (Below.mono (by rw [hW1]; go_grown) (by omega : w.heap.size ≤ W0.heap.size))
  have d0 : W1.heap[w.heap.size]? = some (.cells #[.int .i64 at_] 3 (0, 0)) := (by rw [hW1]; simp (disch := (first | omega | (simp only [World.size_alloc]; done) | (simp only [World.size_alloc]; omega))) only [heap_laws, k0])
  have d1 : W1.heap[w.heap.size + 1]? = some (.cells #[.int .i64 at_] 3 (0, 0)) := (by rw [hW1]; simp (disch := (first | omega | (simp only [World.size_alloc]; done) | (simp only [World.size_alloc]; omega))) only [heap_laws, k1])
  have d2 : W1.heap[w.heap.size + 1 + 1]? = some (.cells #[.slice (some ⟨w.heap.size + 1, 0, none⟩) 1 1] 88 (0, 0)) := (by rw [hW1]; simp (disch := (first | omega | (simp only [World.size_alloc]; done) | (simp only [World.size_alloc]; omega))) only [heap_laws, k2])
  have d3 : W1.heap[w.heap.size + 3]? = some (.cells #[.pointer (some ⟨p, q, none⟩)] 376 (0, 0)) := (by rw [hW1]; simp (disch := (first | omega | (simp only [World.size_alloc]; done) | (simp only [World.size_alloc]; omega))) only [heap_laws])
  have d4 : W1.heap[w.heap.size + 3 + 1]? = some (.cells #[.int .i64 s] 2 (0, 0)) := (by rw [hW1]; simp (disch := (first | omega | (simp only [World.size_alloc]; done) | (simp only [World.size_alloc]; omega))) only [heap_laws])
  have d5 : W1.heap[w.heap.size + 3 + 2]? = some (.cells #[.int .i64 at_] 3 (0, 0)) := (by rw [hW1]; simp (disch := (first | omega | (simp only [World.size_alloc]; done) | (simp only [World.size_alloc]; omega))) only [heap_laws])
  clear hW1 q0 k0 k1 k2 hsz0 hb0
  have hrow0 : W1.ownsRow w.heap.size 3 1 (.slice (some ⟨w.heap.size + 1, 0, none⟩) 1 1) 1 [.int .i64 at_] :=
    ⟨rfl, .inr ⟨w.heap.size + 1, 1, #[.int .i64 at_], rfl, by omega, d1, Nat.le_refl _, by simp [maxLen], rfl, rfl⟩⟩
  refine (wpIn_wide (n := 0)).1 ?_
  refine range_law (a₁ := ?a1) rfl (enters_of Tryz.func287 (by kernel_rfl) rfl) (run_iter w.heap.size (w.heap.size + 3) p q A n c zs s at_ W1 hp (by omega) (by omega) hn hat d3 d4 d5 ((cellOf hb hp).trans cp) (hz.below hb)) (Below.refl _ _)
    (fun k hk => by omega) (by omega) (fun _ => rfl)
    (fun i W => Below w.heap.size w W ∧ W.heap[w.heap.size]? = some (.cells #[.int .i64 at_] 3 (0, 0)) ∧ ∃ v, Boxed W (w.heap.size + 1 + 1) 88 v ∧
      W.ownsRow w.heap.size 3 1 v ((List.range (i + 1)).filter fun j => j % 2 == 0).length (((List.range (i + 1)).filter fun j => j % 2 == 0).map fun j => .int .i64 ((at_ + j : Nat) : Int)) ∧
      (∀ g, v.ownBlock = some g → ¬ (g = w.heap.size ∨ w.heap.size + 3 ≤ g ∧ g < w.heap.size + 3 + 3)))
    (fun i c W => False)
    (fun i X Y hi hm => by
      obtain ⟨h1, h0, v, h2, h3, h4⟩ := hi
      exact ⟨Below.moves h1 hm (Nat.le_refl _) (fun k hk => by omega), hm.cells h0 (by omega), v, hm.cells h2 (by omega), ownsRow_moves h3 hm (fun g hg ho => h4 g hg (.inr ho)), h4⟩)
    (fun i c X Y hi hm => hi)
    ⟨hb, d0, _, d2, by simpa [List.range_succ] using hrow0, fun g hg => by simp [Value.ownBlock] at hg; omega⟩ ?assign ?body ?done ?stop
  case assign =>
    intro l i W K hK
    gi_wp2
    exact hK
  case body =>
    rintro l i W hi ⟨hbW, hat0, v, hv, hrow, hgO⟩ hsW
    have e0 := hv.cell
    have e1 := cell_blk hat0 0
    simp only [List.getElem?_toArray, List.getElem?_cons_zero] at e1
    have hlt : w.heap.size + 1 + 1 < W.heap.size := by omega
    have hNi : i < 1000000 := by omega
    have hfl : ((List.range (i + 1)).filter fun j => j % 2 == 0).length ≤ 1000000 := Nat.le_trans (List.length_filter_le _ _) (by simp; omega)
    have hfs := range_filter_succ (i + 1) (fun j => j % 2 == 0)
    generalize ((List.range (i + 1)).filter fun j => j % 2 == 0) = L at *
    by_cases hev : (i + 1) % 2 = 0
    · rw [if_pos (by simpa using hev)] at hfs
      have Hfs := Lib.hid hfs
      clear hfs
      have ht : (((at_ : Int) + i + 1 - at_) % 2 == 0) = true := by simp; omega
      gi_wp2_with (gi_at_builtin; refine wpListIn_append_at _ rfl _ _ 88 rfl w.heap.size 3 i0 (.int .i64 0) 1 8 Tryz.underlying88 hi0 hz0 hz1 hz2 rfl (by decide) _ _ _ rfl (hrow.alloc _) ⟨W.heap.size, 0, none⟩ 1 1 [.int .i64 ((at_ : Int) + i + 1)] rfl rfl (cell_one_new _ _ _) (by simp [Value.oneCell']) (by simp only [maxLen]; omega) (by omega) (by simp; omega) ?_; intro v' w1 hown' hgrow hat'; obtain ⟨g', cap', rfl⟩ := ownsRow_succ hown'; have hap := boxed_appendedK (O := fun k => k = w.heap.size ∨ w.heap.size + 3 ≤ k ∧ k < w.heap.size + 3 + 3) hv (by decide) hrow (by omega) (by omega) (by simp; omega) (fun k (hk : k = w.heap.size ∨ w.heap.size + 3 ≤ k ∧ k < w.heap.size + 3 + 3) => by omega) hgO hown' hgrow hat'; obtain ⟨hv1, hv2, hr2, hk2, hb2, hg2⟩ := hap; have hc1 := hv1.cell; have hf1 := hv1.frozen)
      have hL : L.map (fun j => Value.int .i64 ((at_ + j : Nat) : Int)) ++ [.int .i64 ((at_ : Int) + i + 1)] = (L ++ [i + 1]).map fun j => .int .i64 ((at_ + j : Nat) : Int) := by
        rw [List.map_append, List.map_singleton, show ((at_ + (i + 1) : Nat) : Int) = (at_ : Int) + i + 1 by omega]
      rw [hL] at hr2
      refine ⟨hk2.less (fun k hk => .inr hk), hbW.trans hb2, (hk2.own _ (.inl rfl)).trans hat0, _, hv2, ?_, hg2⟩
      rw [Hfs.out, List.length_append]; exact hr2
    · rw [if_neg (by simpa using hev), List.append_nil] at hfs
      have Hfs := Lib.hid hfs
      clear hfs
      have ht : (((at_ : Int) + i + 1 - at_) % 2 == 0) = false := by simp; omega
      gi_wp2
      refine ⟨Keeps.refl _ _ _, hbW, hat0, v, hv, ?_, hgO⟩
      rw [Hfs.out]; exact hrow
  case done =>
    rintro D W hD ⟨hbW, hat0, v, hv, hrow, hgO⟩ hK
    have e0 := hv.cell
    rw [range_filter_zero (runLen s zs at_)] at hrow
    obtain ⟨g, cap, rfl⟩ := ownsRow_succ hrow
    go_wp2
    refine ⟨by simp, .inl ⟨_, _, rfl, run_takeDeferred hK, ?_⟩⟩
    refine ⟨_, results_tmp rfl _ _ _, _, _, _, rfl, ?_, ?_⟩
    · have h1 := ownsRow_putObj hrow (.deferred none) hK rfl
      rw [stepL_pairs, range_filter_zero (runLen s zs at_)]
      exact Ints.of_own (by rw [List.map_map]; exact h1)
    · exact hbW.trans ⟨rfl, rfl, rfl, by simp, fun k hk => World.putObj_heap_other (by omega)⟩
  case stop =>
    rintro D i c W hD hi h hK
    exact h.elim
end Go.Vir

/- The walks of prop: names. -/
namespace Go.Vir
open Go Go.RowKit Go.Proofs Go.Shelf

/-- May a byte stand in a name? -/
def letterB (c : UInt8) : Bool := (97 ≤ c.toNat && c.toNat ≤ 122) || (65 ≤ c.toNat && c.toNat ≤ 90) || (48 ≤ c.toNat && c.toNat ≤ 57) || c.toNat == 95
/-- P5.1: a name. -/
def nameB (l : List UInt8) : Bool := l.all letterB && (!l.isEmpty && decide (l.length ≤ 40))

theorem letterB_iff (c : UInt8) : letterB c = true ↔ (97 ≤ (c.toNat : Int) ∧ (c.toNat : Int) ≤ 122) ∨ (65 ≤ (c.toNat : Int) ∧ (c.toNat : Int) ≤ 90) ∨ (48 ≤ (c.toNat : Int) ∧ (c.toNat : Int) ≤ 57) ∨ (c.toNat : Int) = 95 := by
  simp only [letterB, Bool.or_eq_true, Bool.and_eq_true, decide_eq_true_eq, beq_iff_eq]
  omega

/-- What a round of a range over a string takes. -/
theorem next_any {P : Program} (w : World) (s : ByteArray) (pos : Nat) (h : pos < s.size) : ∃ (c : Int) (width : Nat), 0 ≤ c ∧ c ≤ 2147483647 ∧
    (letterB (s[pos]'h) = true ↔ (97 ≤ c ∧ c ≤ 122) ∨ (65 ≤ c ∧ c ≤ 90) ∨ (48 ≤ c ∧ c ≤ 57) ∨ c = 95) ∧ (letterB (s[pos]'h) = true → width = 1) ∧
    ∀ ty, (Instr.next (.pointer (some ⟨w.heap.size, 0, none⟩)) true ty).run P (w.iter s pos) = .ok (.tuple #[.bool true, .int .i64 pos, .int .i32 c]) (w.iter s (pos + width)) := by
  refine ⟨((Utf8.decode s pos).1 : Nat), (Utf8.decode s pos).2, by omega, by have := decode_le s pos; omega, ?_, ?_, fun ty => run_next_any w s pos ty h⟩
  · rw [letterB_iff]
    rcases Nat.lt_or_ge (s[pos]'h).toNat 128 with h1 | h1
    · rw [decode_ascii s pos h h1]
    · have := (decode_high s pos h h1).1
      omega
  · intro hl
    rcases Nat.lt_or_ge (s[pos]'h).toNat 128 with h1 | h1
    · rw [decode_ascii s pos h h1]
    · rw [letterB_iff] at hl
      omega

theorem below_iter (w : World) (s : ByteArray) (p : Nat) : Below w.heap.size w (w.iter s p) := (Below.refl _ w).alloc (Nat.le_refl _) _

set_option maxHeartbeats 800000 in
theorem prop_isName (s : ByteArray) (w : World) (hs : s.size ≤ 1000000) :
    Calls Tryz.prog 96 #[.string s] w fun e w' => e = .returned (.bool (nameB s.data.toList)) ∧ Below w.heap.size w w' := by
  go_enter Tryz.func96, Tryz.ntmps96
  go_wp2
  go_loopw [] (fun wr => ∃ pos, pos ≤ s.size ∧ (s.data.toList.take pos).all letterB = true ∧ wr = w.iter s pos) (fun wr => s.size - wr.iterPos w.heap.size)
  case atStart => exact ⟨0, Nat.zero_le _, rfl, rfl⟩
  case round =>
    obtain ⟨pos, hp, hall, rfl⟩ := hrel
    rcases Nat.lt_or_ge pos s.size with hlt | hge
    · obtain ⟨c, width, hc0, hc1, hlet, hw1, hnx⟩ := next_any (P := Tryz.prog) w s pos hlt
      have htk : s.data.toList.take (pos + 1) = s.data.toList.take pos ++ [s[pos]] := by rw [List.take_succ_eq_append_getElem (by simpa using hlt)]; rfl
      by_cases hl : letterB (s[pos]'hlt) = true
      · have hw := hw1 hl
        subst hw
        have hall2 : (s.data.toList.take (pos + 1)).all letterB = true := by rw [htk, List.all_append, hall]; simp [hl]
        have hcs := hlet.1 hl
        have Hall := Lib.hid hall2
        clear htk hw1 hlet hall hall2 hl
        rcases hcs with ⟨h1, h2⟩ | ⟨h1, h2⟩ | ⟨h1, h2⟩ | rfl
        · have hne : (c != 95) = true := by rw [bne_iff_ne]; omega
          go_wp2
          exact ⟨⟨pos + 1, by omega, Hall.out, rfl⟩, by simp; omega⟩
        · have hne : (c != 95) = true := by rw [bne_iff_ne]; omega
          go_wp2
          exact ⟨⟨pos + 1, by omega, Hall.out, rfl⟩, by simp; omega⟩
        · have hne : (c != 95) = true := by rw [bne_iff_ne]; omega
          go_wp2
          exact ⟨⟨pos + 1, by omega, Hall.out, rfl⟩, by simp; omega⟩
        · go_wp2
          exact ⟨⟨pos + 1, by omega, Hall.out, rfl⟩, by simp; omega⟩
      · have hf : nameB s.data.toList = false := by
          have h1 : s.data.toList.all letterB = false := by
            rw [List.all_eq_false]
            exact ⟨s[pos], by
              have : s[pos] = s.data.toList[pos]'(by simpa using hlt) := rfl
              rw [this]; exact List.getElem_mem _, hl⟩
          simp [nameB, h1]
        have hcs : c < 48 ∨ (57 < c ∧ c < 65) ∨ (90 < c ∧ c < 95) ∨ (95 < c ∧ c < 97) ∨ 122 < c := by
          have h1 : ¬ ((97 ≤ c ∧ c ≤ 122) ∨ (65 ≤ c ∧ c ≤ 90) ∨ (48 ≤ c ∧ c ≤ 57) ∨ c = 95) := fun h => hl (hlet.2 h)
          omega
        have hne : (c != 95) = true := by rw [bne_iff_ne]; omega
        have Hf := Lib.hid hf
        clear htk hw1 hlet hall hf hl
        rcases hcs with h1 | ⟨h1, h2⟩ | ⟨h1, h2⟩ | ⟨h1, h2⟩ | h1
        · go_wp2
          go_ret
          exact ⟨ret_bool Hf.out.symm, below_iter _ _ _⟩
        · go_wp2
          go_ret
          exact ⟨ret_bool Hf.out.symm, below_iter _ _ _⟩
        · have d1 : decide (c ≤ 90) = false := by simp; omega
          have d2 : decide (c < 48) = false := by simp; omega
          have d3 : decide (57 < c) = true := by simp; omega
          have d4 : decide (97 ≤ c) = false := by simp; omega
          go_wp2
          go_ret
          exact ⟨ret_bool Hf.out.symm, below_iter _ _ _⟩
        · have d1 : decide (c ≤ 90) = false := by simp; omega
          have d2 : decide (c < 48) = false := by simp; omega
          have d3 : decide (57 < c) = true := by simp; omega
          have d4 : decide (97 ≤ c) = false := by simp; omega
          go_wp2
          go_ret
          exact ⟨ret_bool Hf.out.symm, below_iter _ _ _⟩
        · have d1 : decide (c ≤ 90) = false := by simp; omega
          have d2 : decide (c < 48) = false := by simp; omega
          have d3 : decide (57 < c) = true := by simp; omega
          have d4 : decide (c ≤ 122) = false := by simp; omega
          go_wp2
          go_ret
          exact ⟨ret_bool Hf.out.symm, below_iter _ _ _⟩
    · obtain rfl : pos = s.size := by omega
      have hall2 : s.data.toList.all letterB = true := by
        rw [List.take_of_length_le (by simp)] at hall; exact hall
      have hnx : ∀ ty, (Instr.next (.pointer (some ⟨w.heap.size, 0, none⟩)) true ty).run Tryz.prog (w.iter s s.size) = .ok (.tuple #[.bool false]) (w.iter s s.size) := fun ty => run_next_end w s s.size ty (by omega)
      have hnb : nameB s.data.toList = (!s.data.toList.isEmpty && decide (s.size ≤ 40)) := by
        unfold nameB
        rw [hall2, Bool.true_and]
        simp
      have Hnb := Lib.hid hnb
      clear hnb hall hall2
      rcases he : s.data.toList.isEmpty with _ | _
      · have he1 : s.toList.isEmpty = false := by rw [Lib.toList_data]; exact he
        have he2 : ¬ (s.toList = []) := by rw [Lib.toList_data]; simpa using he
        have Hn2 : Hid (nameB s.data.toList = decide (s.size ≤ 40)) := by rw [Hnb.out, he]; rfl
        clear he Hnb
        go_wp2
        all_goals go_ret
        all_goals refine ⟨ret_bool ?_, below_iter _ _ _⟩
        all_goals rw [Hn2.out]
        all_goals (rw [decide_eq_decide]; omega)
      · have he1 : s.toList.isEmpty = true := by rw [Lib.toList_data]; exact he
        have he2 : s.toList = [] := by rw [Lib.toList_data]; simpa using he
        have Hn2 : Hid (nameB s.data.toList = false) := by rw [Hnb.out, he]; rfl
        clear he Hnb
        go_wp2
        all_goals go_ret
        all_goals refine ⟨ret_bool ?_, below_iter _ _ _⟩
        all_goals rw [Hn2.out]
end Go.Vir

/- Maps, entry by entry: what an insert and a look-up come to where the entries are known. No program. -/
namespace Go.Vir
open Go Go.RowKit

def plainKey : TypeDesc → Bool
  | .int _ => true
  | .string => true
  | .bool => true
  | _ => false

section
variable {P : Program} {t K E : TypeId} {kd : TypeDesc} {r : Nat} {es : Array MapEntry} {clock : Nat} {key v : Value} {w : World}

theorem run_checkKey (b : Bool) (hk : P.underlying K = some kd) (hp : plainKey kd = true) : (Instr.checkKey b 10000 K key).run P w = .ok () w := by
  show (Instr.checkKey b (9999 + 1) K key).run P w = .ok () w
  unfold Instr.checkKey
  simp only [Sem.run_bind, run_underlying hk, Result.andThen]
  cases kd <;> first | (simp [plainKey] at hp; done) | (cases key <;> rfl)

theorem run_findKey (hk : P.underlying K = some kd) {x : Option (Nat × Value)} {l : List MapEntry} (hf : Instr.findNow kd key l 0 = some x) : (Instr.findKey K key l).run P w = .ok x w := by
  unfold Instr.findKey
  simp only [Sem.run_bind, run_underlying hk, Result.andThen, hf]
  rfl

theorem run_getMap (hb : w.heap[r]? = some (.map es clock)) : (getObj r).run P w = .ok (.map es clock) w := by simp [getObj, Sem.run, hb]
theorem run_setMap (o : Obj) (hb : w.heap[r]? = some (.map es clock)) : (setObj r o).run P w = .ok () (w.putObj r o) := by simp [setObj, Sem.run, hb, World.putObj]

theorem run_insert_new (ht : P.underlying t = some (.map K E)) (hk : P.underlying K = some kd) (hp : plainKey kd = true) (hb : w.heap[r]? = some (.map es clock)) (hf : Instr.findNow kd key es.toList 0 = some none) :
    (Instr.mapUpdate t (.map (some r)) key v).run P w = .ok () (w.putObj r (.map (es.push { key, val := v, born := clock }) (clock + 1))) := by
  unfold Instr.mapUpdate
  simp only [Sem.run_bind, run_underlying ht, Result.andThen, run_getMap hb, run_checkKey false hk hp, run_findKey hk hf, run_setMap _ hb]

theorem run_lookup_at (ok : Bool) (ht : P.underlying t = some (.map K E)) (hk : P.underlying K = some kd) (hp : plainKey kd = true) (hb : w.heap[r]? = some (.map es clock)) {i : Nat} {u : Value} (hf : Instr.findNow kd key es.toList 0 = some (some (i, u))) :
    (Instr.lookup t (.map (some r)) key ok).run P w = .ok (if ok then .tuple #[u, .bool true] else u) w := by
  unfold Instr.lookup
  simp only [Sem.run_bind, run_underlying ht, Result.andThen, run_getMap hb, run_checkKey _ hk hp, run_findKey hk hf, Sem.run_pure]

theorem run_lookup_none (ok : Bool) {z : Value} (ht : P.underlying t = some (.map K E)) (hk : P.underlying K = some kd) (hp : plainKey kd = true) (hb : w.heap[r]? = some (.map es clock)) (hz : (zeroValue E).run P w = .ok z w) (hf : Instr.findNow kd key es.toList 0 = some none) :
    (Instr.lookup t (.map (some r)) key ok).run P w = .ok (if ok then .tuple #[z, .bool false] else z) w := by
  unfold Instr.lookup
  simp only [Sem.run_bind, run_underlying ht, Result.andThen, run_getMap hb, run_checkKey _ hk hp, run_findKey hk hf, Sem.run_pure, hz]

theorem wpList_insert_new {ops : Array Oper} {rest : List Oper} {o : Oper} {a : Act} {Q : Exit → Act → World → Prop} (hg : o.guard = none) {m k x : Operand} (hop : o.op = .insert t m k x)
    (hm : a.eval m = .map (some r)) (hkv : a.eval k = key) (hxv : a.eval x = v)
    (ht : P.underlying t = some (.map K E)) (hk : P.underlying K = some kd) (hp : plainKey kd = true) (hb : w.heap[r]? = some (.map es clock)) (hf : Instr.findNow kd key es.toList 0 = some none)
    (h : wpList P ops Q rest (a.put o.dst undef) (w.putObj r (.map (es.push { key, val := v, born := clock }) (clock + 1)))) : wpList P ops Q (o :: rest) a w := by
  refine wpList_plain hg fun Kn hK => ?_
  unfold Oper.wp
  simp only [execOp, hop, hm, hkv, hxv, Sem.run_bind, run_insert_new ht hk hp hb hf, Result.andThen]
  exact hK _ _ h

theorem wpList_lookup_at {ops : Array Oper} {rest : List Oper} {o : Oper} {a : Act} {Q : Exit → Act → World → Prop} (hg : o.guard = none) {m k : Operand} {ok : Bool} (hop : o.op = .lookup t m k ok)
    (hm : a.eval m = .map (some r)) (hkv : a.eval k = key)
    (ht : P.underlying t = some (.map K E)) (hk : P.underlying K = some kd) (hp : plainKey kd = true) (hb : w.heap[r]? = some (.map es clock)) {i : Nat} {u : Value} (hf : Instr.findNow kd key es.toList 0 = some (some (i, u)))
    (h : wpList P ops Q rest (a.put o.dst (if ok then .tuple #[u, .bool true] else u)) w) : wpList P ops Q (o :: rest) a w := by
  refine wpList_plain hg fun Kn hK => ?_
  unfold Oper.wp
  simp only [execOp, hop, hm, hkv, Sem.run_bind, run_lookup_at ok ht hk hp hb hf, Result.andThen]
  exact hK _ _ h

theorem wpList_update_new {ops : Array Oper} {rest : List Oper} {o : Oper} {a : Act} {Q : Exit → Act → World → Prop} (hg : o.guard = none) {m k x : Operand} (hop : o.op = .mapUpdate t m k x)
    (hm : a.eval m = .map (some r)) (hkv : a.eval k = key) (hxv : a.eval x = v)
    (ht : P.underlying t = some (.map K E)) (hk : P.underlying K = some kd) (hp : plainKey kd = true) (hb : w.heap[r]? = some (.map es clock)) (hf : Instr.findNow kd key es.toList 0 = some none)
    (h : wpList P ops Q rest (a.put o.dst undef) (w.putObj r (.map (es.push { key, val := v, born := clock }) (clock + 1)))) : wpList P ops Q (o :: rest) a w := by
  refine wpList_plain hg fun Kn hK => ?_
  unfold Oper.wp
  simp only [execOp, hop, hm, hkv, hxv, Sem.run_bind, run_insert_new ht hk hp hb hf, Result.andThen]
  exact hK _ _ h
end
end Go.Vir
