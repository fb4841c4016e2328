/- Joined texts: Base, WkA, Utf, Utg, Map, MapI, Range, Field, Sca, WkB, WkC, WkG. -/
import Derived.Test.YtjbeaheenfcgdaaGreatDoorChecked
import Derived.WalkKit
import Derived.WalkSpells
import Derived.OneCell
import Derived.Laws.AppendOwn
import Derived.Deep.Draws
import Derived.WalkLawsBesides
import Derived.BigQuiet
import Derived.Deep.QuietTactic
import Derived.Handy
import Derived.Lib.Hide
import Derived.Shelf.Abstract
import Derived.Lib.DecodeN
import Derived.Lib.RuneCountTail
import Derived.RangeFuncRecord
import Derived.OwnWalkIn
import Derived.RangeFuncNested
import Derived.RangeFuncBound
import Derived.RangeFuncCalls
import Derived.RangeFuncLeaves
import Derived.TacticsInMore
import Derived.LoopNIn
import Derived.LoopIn
import Derived.RangeFuncBox
import Derived.Maps.AppendAt
import Derived.Deep.Cut
import Derived.Laws.Entries
import Derived.Laws.Rows
import Derived.StillTailTactics
import Derived.Laws.RangeAny
import Derived.Lib.Strings
namespace Go.Vir
theorem qB {α : Type _} {xs : List α} {i : Nat} (h : i < xs.toArray.size) : xs.toArray[i] = xs[i]'(by simpa using h) := rfl
theorem qC {α : Type _} (a : α) (ys : List α) (h : 0 < (a :: ys).length) : getElem (a :: ys) 0 h = a := rfl
theorem qD {α : Type _} (a : α) (ys : List α) (i : Nat) (h : i + 1 < (a :: ys).length) : getElem (a :: ys) (i + 1) h = getElem ys i (Nat.lt_of_succ_lt_succ h) := rfl
theorem qE {α : Type _} (l : List α) (i : Nat) (a : α) : l.toArray.setIfInBounds i a = (l.set i a).toArray := List.setIfInBounds_toArray ..
theorem qF {α : Type _} (x : α) (xs : List α) (y : α) : (x :: xs).set 0 y = y :: xs := rfl
theorem qG {α : Type _} (x : α) (xs : List α) (n : Nat) (y : α) : (x :: xs).set (n + 1) y = x :: xs.set n y := rfl
end Go.Vir
namespace Go.Vir
open Go Go.RowKit

structure Ints (w : World) (B : Nat) (A : Option Addr) (n : Nat) (zs : List Int) : Prop where
  len : zs.length = n
  at_ : 0 < n → ∃ b o, A = some ⟨b, o, none⟩ ∧ b < B ∧ ∀ (j : Nat) (h : j < zs.length), w.cell? ⟨b, o + j, none⟩ = some (.int .i64 zs[j])

structure Strs (w : World) (B : Nat) (A : Option Addr) (n : Nat) (ss : List (List UInt8)) : Prop where
  len : ss.length = n
  at_ : 0 < n → ∃ b o, A = some ⟨b, o, none⟩ ∧ b < B ∧ ∀ (j : Nat) (h : j < ss.length), w.cell? ⟨b, o + j, none⟩ = some (.string ⟨ss[j].toArray⟩)

structure Prs (w : World) (B : Nat) (A : Option Addr) (n : Nat) (ps : List (Int × Int)) : Prop where
  len : ps.length = n
  at_ : 0 < n → ∃ b o, A = some ⟨b, o, none⟩ ∧ b < B ∧ ∀ (j : Nat) (h : j < ps.length), w.cell? ⟨b, o + j * 2, none⟩ = some (.int .i64 ps[j].1) ∧ w.cell? ⟨b, o + j * 2 + 1, none⟩ = some (.int .i64 ps[j].2)

section
variable {w w' : World} {B B' n : Nat} {A : Option Addr}

theorem cellOf {b o : Nat} (hb : Below B w w') (h : b < B) : w'.cell? ⟨b, o, none⟩ = w.cell? ⟨b, o, none⟩ := hb.cell (p := ⟨b, o, none⟩) h
theorem Ints.below {zs : List Int} (h : Ints w B A n zs) (hb : Below B w w') : Ints w' B A n zs :=
  ⟨h.len, fun hn => let ⟨b, o, e, hlt, hc⟩ := h.at_ hn; ⟨b, o, e, hlt, fun j hj => (cellOf hb hlt).trans (hc j hj)⟩⟩
theorem Ints.more {zs : List Int} (h : Ints w B A n zs) (hB : B ≤ B') : Ints w B' A n zs :=
  ⟨h.len, fun hn => let ⟨b, o, e, hlt, hc⟩ := h.at_ hn; ⟨b, o, e, by omega, hc⟩⟩
theorem Ints.nil (w : World) (B : Nat) (A : Option Addr) : Ints w B A 0 [] := ⟨rfl, fun h => absurd h (by omega)⟩
theorem Strs.below {ss : List (List UInt8)} (h : Strs w B A n ss) (hb : Below B w w') : Strs w' B A n ss :=
  ⟨h.len, fun hn => let ⟨b, o, e, hlt, hc⟩ := h.at_ hn; ⟨b, o, e, hlt, fun j hj => (cellOf hb hlt).trans (hc j hj)⟩⟩
theorem Strs.more {ss : List (List UInt8)} (h : Strs w B A n ss) (hB : B ≤ B') : Strs w B' A n ss :=
  ⟨h.len, fun hn => let ⟨b, o, e, hlt, hc⟩ := h.at_ hn; ⟨b, o, e, by omega, hc⟩⟩
theorem Strs.nil (w : World) (B : Nat) (A : Option Addr) : Strs w B A 0 [] := ⟨rfl, fun h => absurd h (by omega)⟩
theorem Prs.below {ps : List (Int × Int)} (h : Prs w B A n ps) (hb : Below B w w') : Prs w' B A n ps :=
  ⟨h.len, fun hn => let ⟨b, o, e, hlt, hc⟩ := h.at_ hn; ⟨b, o, e, hlt, fun j hj => ⟨(cellOf hb hlt).trans (hc j hj).1, (cellOf hb hlt).trans (hc j hj).2⟩⟩⟩
theorem Prs.more {ps : List (Int × Int)} (h : Prs w B A n ps) (hB : B ≤ B') : Prs w B' A n ps :=
  ⟨h.len, fun hn => let ⟨b, o, e, hlt, hc⟩ := h.at_ hn; ⟨b, o, e, by omega, hc⟩⟩
theorem Prs.nil (w : World) (B : Nat) (A : Option Addr) : Prs w B A 0 [] := ⟨rfl, fun h => absurd h (by omega)⟩

theorem Ints.of_own {base e c : Nat} {zs : List Int} (h : w.ownsRow base e 1 (.slice A n c) n (zs.map (Value.int .i64))) : Ints w w.heap.size A n zs := by
  refine ⟨by simpa using h.1, fun hn => ?_⟩
  rcases h.2 with ⟨_, h0⟩ | ⟨g, cap, cur, hv, _, hgb, _, _, _, ht⟩
  · omega
  · injection hv with hA _ _
    subst hA
    refine ⟨g, 0, rfl, (Array.getElem?_eq_some_iff.1 hgb).1, fun j hj => ?_⟩
    simp only [World.cell?, hgb, Nat.zero_add]
    have h1 : (cur.toList.take (n * 1))[j]? = some (.int .i64 zs[j]) := by rw [ht]; simp [hj]
    rw [List.getElem?_take] at h1
    split at h1
    · simpa using h1
    · cases h1

theorem Strs.of_own {base e c : Nat} {zs : List (List UInt8)} (h : w.ownsRow base e 1 (.slice A n c) n (zs.map fun z => Value.string ⟨z.toArray⟩)) : Strs w w.heap.size A n zs := by
  refine ⟨by simpa using h.1, fun hn => ?_⟩
  rcases h.2 with ⟨_, h0⟩ | ⟨g, cap, cur, hv, _, hgb, _, _, _, ht⟩
  · omega
  · injection hv with hA _ _
    subst hA
    refine ⟨g, 0, rfl, (Array.getElem?_eq_some_iff.1 hgb).1, fun j hj => ?_⟩
    simp only [World.cell?, hgb, Nat.zero_add]
    have h1 : (cur.toList.take (n * 1))[j]? = some (.string ⟨zs[j].toArray⟩) := by rw [ht]; simp [hj]
    rw [List.getElem?_take] at h1
    split at h1
    · simpa using h1
    · cases h1

theorem cell_blk {b : Nat} {cs : Array Value} {t : TypeId} {m : Nat × Nat} (h : w.heap[b]? = some (.cells cs t m)) (o : Nat) : w.cell? ⟨b, o, none⟩ = cs[o]? := by
  simp [World.cell?, h]
theorem frozen_blk {b : Nat} {cs : Array Value} {t : TypeId} (h : w.heap[b]? = some (.cells cs t (0, 0))) (o : Nat) : w.frozen? ⟨b, o, none⟩ = false := by
  simp [World.frozen?, h]
end

theorem below_drewN (B : Nat) (w : World) (n : Nat) : Below B w (w.drewN n) := ⟨rfl, rfl, rfl, Nat.le_refl _, fun _ _ => rfl⟩
theorem ret_bool {a b : Bool} (h : a = b) : Ending.returned (.bool a) = .returned (.bool b) := by rw [h]
theorem ret_int {k : IntKind} {a b : Int} (h : a = b) : Ending.returned (.int k a) = .returned (.int k b) := by rw [h]
end Go.Vir


namespace Go.Vir
open Go Go.RowKit Go.Proofs Go.Shelf

theorem wraps_i64 (n : Int) (h₀ : 0 ≤ n) (h₁ : n < 2 ^ 63) : IntKind.i64.wrap n = n := by rw [IntKind.wrap_i64]; omega
def Says {α : Type} (P : Program) (g : Nat) (lb : Array Value) (enc : α → Value) (p : α → Bool) (w : World) : Prop :=
  ∀ (x : α) (W : World), Below w.heap.size w W → Calls P g (#[enc x] ++ lb) W fun e W' => e = .returned (.bool (p x)) ∧ Below W.heap.size W W'

def firstB {α : Type} (p : α → Bool) (xs : List α) : Int := if xs.any p then (xs.takeWhile (!p ·)).length else -1

theorem firstB_hit {α : Type} {p : α → Bool} {xs : List α} {k : Nat} (hk : k < xs.length) (hp : p xs[k] = true) (hno : ∀ (j : Nat) (h : j < k), p (xs[j]'(by omega)) = false) : firstB p xs = k := by
  have h1 : xs.any p = true := by simp only [List.any_eq_true]; exact ⟨xs[k], List.getElem_mem _, hp⟩
  have h2 : xs.takeWhile (!p ·) = xs.take k := by
    induction k generalizing xs with
    | zero =>
      cases xs with
      | nil => rfl
      | cons y ys => simp at hp; simp [hp]
    | succ k ih =>
      cases xs with
      | nil => simp at hk
      | cons y ys =>
        have h0 := hno 0 (by omega)
        simp only [List.getElem_cons_zero] at h0
        simp only [List.takeWhile_cons, h0, Bool.not_false, if_true, List.take_succ_cons, List.cons.injEq, true_and]
        refine ih (by simpa using hk) (by simpa using hp) (fun j hj => ?_) ?_
        · have := hno (j + 1) (by omega)
          simpa using this
        · simp only [List.any_eq_true]
          exact ⟨_, List.getElem_mem (by simpa using hk : k < ys.length), by simpa using hp⟩
  rw [firstB, if_pos h1, h2]
  simp
  omega
theorem firstB_none {α : Type} {p : α → Bool} {xs : List α} (hno : ∀ (j : Nat) (h : j < xs.length), p xs[j] = false) : firstB p xs = -1 := by
  rw [firstB, if_neg]
  simp only [List.any_eq_true, not_exists, not_and]
  intro x hx
  obtain ⟨j, hj, rfl⟩ := List.getElem_of_mem hx
  rw [hno j hj]; simp
theorem firstB_ge {α : Type} (p : α → Bool) (xs : List α) : decide (0 ≤ firstB p xs) = xs.any p := by
  unfold firstB
  split
  · rename_i h; rw [h]; simp
  · rename_i h; simp at h; simp; exact h

end Go.Vir


namespace Go.Vir
open Go Go.Lib

def rowU (c : Nat) : Option (Nat × Nat × Nat) :=
  if c < 128 then some (0, 128, 191) else if c < 194 then none else if c < 224 then some (1, 128, 191) else if c = 224 then some (2, 160, 191)
  else if c = 237 then some (2, 128, 159) else if c < 240 then some (2, 128, 191) else if c = 240 then some (3, 144, 191) else if c < 244 then some (3, 128, 191)
  else if c = 244 then some (3, 128, 143) else none
def markU : Nat → Nat
  | 0 => 0
  | 1 => 192
  | 2 => 224
  | _ => 240
def tailU (b : UInt8) : Bool := decide (128 ≤ b.toNat) && decide (b.toNat ≤ 191)
def secU (n lo hi : Nat) (t : List UInt8) : Bool := decide (n = 0) || (decide (lo ≤ (t.headD 0).toNat) && decide ((t.headD 0).toNat ≤ hi))
def goodU (n lo hi : Nat) (t : List UInt8) : Bool := decide (n ≤ t.length) && (secU n lo hi t && (t.take n).all tailU)
def valU (c n : Nat) (t : List UInt8) : Nat := (t.take n).foldl (fun r b => 64 * r + (b.toNat - 128)) (c - markU n)
def decU : List UInt8 → Option (Nat × Nat)
  | [] => none
  | c :: t => match rowU c.toNat with
    | none => none
    | some (n, lo, hi) => if goodU n lo hi t = true then some (valU c.toNat n t, n + 1) else none
theorem decU_cons (c : UInt8) (t : List UInt8) : decU (c :: t) = match rowU c.toNat with
    | none => none
    | some (n, lo, hi) => if goodU n lo hi t = true then some (valU c.toNat n t, n + 1) else none := rfl
def scalU : Nat → List UInt8 → Option (List Int)
  | _, [] => some []
  | 0, _ :: _ => none
  | f + 1, c :: t => match decU (c :: t) with
    | none => none
    | some (r, n) => (scalU f ((c :: t).drop n)).map ((r : Int) :: ·)
def scalarsU (s : List UInt8) : Option (List Int) := scalU s.length s
def scaR (r : Int) : Bool := decide (0 ≤ r) && (decide (r ≤ 1114111) && (decide (r < 55296) || decide (57343 < r)))

theorem row_cases {c n lo hi : Nat} (h : rowU c = some (n, lo, hi)) :
    (c < 128 ∧ n = 0) ∨ (194 ≤ c ∧ c < 224 ∧ n = 1 ∧ lo = 128 ∧ hi = 191) ∨ (c = 224 ∧ n = 2 ∧ lo = 160 ∧ hi = 191) ∨ (c = 237 ∧ n = 2 ∧ lo = 128 ∧ hi = 159) ∨
    (225 ≤ c ∧ c < 240 ∧ c ≠ 237 ∧ n = 2 ∧ lo = 128 ∧ hi = 191) ∨ (c = 240 ∧ n = 3 ∧ lo = 144 ∧ hi = 191) ∨ (241 ≤ c ∧ c < 244 ∧ n = 3 ∧ lo = 128 ∧ hi = 191) ∨ (c = 244 ∧ n = 3 ∧ lo = 128 ∧ hi = 143) := by
  unfold rowU at h
  repeat' split at h
  all_goals first | (cases h; done) | (simp only [Option.some.injEq, Prod.mk.injEq] at h; obtain ⟨rfl, rfl, rfl⟩ := h; omega)
set_option maxRecDepth 10000 in
theorem dec_cases {s : List UInt8} {r n : Nat} (h : decU s = some (r, n)) :
    (∃ a t, s = a :: t ∧ a.toNat < 128 ∧ r = a.toNat ∧ n = 1) ∨
    (∃ a b t, s = a :: b :: t ∧ (194 ≤ a.toNat ∧ a.toNat < 224) ∧ (128 ≤ b.toNat ∧ b.toNat ≤ 191) ∧ r = (a.toNat - 192) * 64 + (b.toNat - 128) ∧ n = 2) ∨
    (∃ a b c t, s = a :: b :: c :: t ∧ (224 ≤ a.toNat ∧ a.toNat < 240) ∧ (128 ≤ b.toNat ∧ b.toNat ≤ 191) ∧ (128 ≤ c.toNat ∧ c.toNat ≤ 191) ∧ (a.toNat = 224 → 160 ≤ b.toNat) ∧ (a.toNat = 237 → b.toNat ≤ 159) ∧
      r = (a.toNat - 224) * 4096 + (b.toNat - 128) * 64 + (c.toNat - 128) ∧ n = 3) ∨
    (∃ a b c d t, s = a :: b :: c :: d :: t ∧ (240 ≤ a.toNat ∧ a.toNat < 245) ∧ (128 ≤ b.toNat ∧ b.toNat ≤ 191) ∧ (128 ≤ c.toNat ∧ c.toNat ≤ 191) ∧ (128 ≤ d.toNat ∧ d.toNat ≤ 191) ∧ (a.toNat = 240 → 144 ≤ b.toNat) ∧ (a.toNat = 244 → b.toNat ≤ 143) ∧
      r = (a.toNat - 240) * 262144 + (b.toNat - 128) * 4096 + (c.toNat - 128) * 64 + (d.toNat - 128) ∧ n = 4) := by
  rcases s with _ | ⟨a, t⟩
  · cases h
  · rw [decU_cons] at h
    rcases hr : rowU a.toNat with _ | ⟨k, lo, hi⟩
    · rw [hr] at h; cases h
    · rw [hr] at h
      simp only at h
      split at h
      · rename_i hg
        simp only [Option.some.injEq, Prod.mk.injEq] at h
        obtain ⟨h1, h2⟩ := h
        unfold goodU secU at hg
        simp only [Bool.and_eq_true, decide_eq_true_eq, Bool.or_eq_true] at hg
        obtain ⟨hl, hs, ht⟩ := hg
        unfold valU at h1
        rcases row_cases hr with h0 | h0 | h0 | h0 | h0 | h0 | h0 | h0
        · obtain ⟨h0, rfl⟩ := h0
          refine .inl ⟨a, t, rfl, h0, ?_, by omega⟩
          rw [← h1]; simp [markU]
        · obtain ⟨u, v, rfl, rfl, rfl⟩ := h0
          obtain ⟨b, t, rfl⟩ : ∃ b t', t = b :: t' := by cases t with | nil => simp at hl | cons b t' => exact ⟨b, t', rfl⟩
          simp [tailU] at ht hs
          refine .inr (.inl ⟨a, b, t, rfl, ⟨u, v⟩, ⟨ht.1, ht.2⟩, ?_, by omega⟩)
          rw [← h1]; simp [markU]; omega
        all_goals
          try (obtain ⟨u, rfl, rfl, rfl⟩ := h0)
          try (obtain ⟨u, v, rfl, rfl, rfl⟩ := h0)
          try (obtain ⟨u, v, v', rfl, rfl, rfl⟩ := h0)
        · obtain ⟨b, c, t, rfl⟩ : ∃ b c t', t = b :: c :: t' := by match t, hl with | b :: c :: t', _ => exact ⟨b, c, t', rfl⟩
          simp [tailU] at ht hs
          refine .inr (.inr (.inl ⟨a, b, c, t, rfl, by omega, by omega, by omega, by omega, by omega, ?_, by omega⟩))
          rw [← h1]; simp [markU]; omega
        · obtain ⟨b, c, t, rfl⟩ : ∃ b c t', t = b :: c :: t' := by match t, hl with | b :: c :: t', _ => exact ⟨b, c, t', rfl⟩
          simp [tailU] at ht hs
          refine .inr (.inr (.inl ⟨a, b, c, t, rfl, by omega, by omega, by omega, by omega, by omega, ?_, by omega⟩))
          rw [← h1]; simp [markU]; omega
        · obtain ⟨b, c, t, rfl⟩ : ∃ b c t', t = b :: c :: t' := by match t, hl with | b :: c :: t', _ => exact ⟨b, c, t', rfl⟩
          simp [tailU] at ht hs
          refine .inr (.inr (.inl ⟨a, b, c, t, rfl, by omega, by omega, by omega, by omega, by omega, ?_, by omega⟩))
          rw [← h1]; simp [markU]; omega
        · obtain ⟨b, c, d, t, rfl⟩ : ∃ b c d t', t = b :: c :: d :: t' := by match t, hl with | b :: c :: d :: t', _ => exact ⟨b, c, d, t', rfl⟩
          simp [tailU] at ht hs
          refine .inr (.inr (.inr ⟨a, b, c, d, t, rfl, by omega, by omega, by omega, by omega, by omega, by omega, ?_, by omega⟩))
          rw [← h1]; simp [markU]; omega
        · obtain ⟨b, c, d, t, rfl⟩ : ∃ b c d t', t = b :: c :: d :: t' := by match t, hl with | b :: c :: d :: t', _ => exact ⟨b, c, d, t', rfl⟩
          simp [tailU] at ht hs
          refine .inr (.inr (.inr ⟨a, b, c, d, t, rfl, by omega, by omega, by omega, by omega, by omega, by omega, ?_, by omega⟩))
          rw [← h1]; simp [markU]; omega
        · obtain ⟨b, c, d, t, rfl⟩ : ∃ b c d t', t = b :: c :: d :: t' := by match t, hl with | b :: c :: d :: t', _ => exact ⟨b, c, d, t', rfl⟩
          simp [tailU] at ht hs
          refine .inr (.inr (.inr ⟨a, b, c, d, t, rfl, by omega, by omega, by omega, by omega, by omega, by omega, ?_, by omega⟩))
          rw [← h1]; simp [markU]; omega
      · cases h
set_option maxRecDepth 10000 in
theorem dec_ok {s : List UInt8} {r n : Nat} (h : decU s = some (r, n)) : 1 ≤ n ∧ n ≤ 4 ∧ n ≤ s.length ∧ scaR (r : Int) = true := by
  have key : r < 55296 ∨ (57343 < r ∧ r ≤ 1114111) → scaR (r : Int) = true := fun h => by
    simp only [scaR, Bool.and_eq_true, Bool.or_eq_true, decide_eq_true_eq]; omega
  rcases dec_cases h with ⟨a, t, rfl, h1, rfl, rfl⟩ | ⟨a, b, t, rfl, h1, h2, rfl, rfl⟩ | ⟨a, b, c, t, rfl, h1, h2, h3, h4, h5, rfl, rfl⟩ | ⟨a, b, c, d, t, rfl, h1, h2, h3, h4, h5, h6, rfl, rfl⟩
  · exact ⟨by omega, by omega, by simp, key (by omega)⟩
  · exact ⟨by omega, by omega, by simp, key (by omega)⟩
  · exact ⟨by omega, by omega, by simp, key (by omega)⟩
  · exact ⟨by omega, by omega, by simp, key (by omega)⟩
theorem getB (s : List UInt8) (i : Nat) : (⟨s.toArray⟩ : ByteArray).get! i = s.getD i 0 := by rw [← Go.Lib.getD_get!']
set_option maxRecDepth 10000 in
theorem dec_model {s : List UInt8} {p r n : Nat} (h : decU (s.drop p) = some (r, n)) : Utf8.decode ⟨s.toArray⟩ p = (r, n) := by
  rw [decode_at]
  have hg : ∀ k, (⟨s.toArray⟩ : ByteArray).get! (p + k) = (s.drop p).getD k 0 := fun k => by
    rw [getB, List.getD_eq_getElem?_getD, List.getD_eq_getElem?_getD, List.getElem?_drop]
  have h0 := hg 0
  have h1 := hg 1
  have h2 := hg 2
  have h3 := hg 3
  rw [Nat.add_zero] at h0
  have hsz : (⟨s.toArray⟩ : ByteArray).size - p = (s.drop p).length := by
    have := Lib.size_eq ⟨s.toArray⟩
    rw [List.length_drop]; simp at this ⊢; omega
  rw [hsz, h0, h1, h2, h3]
  generalize s.drop p = u at h
  rcases dec_cases h with ⟨a, t, rfl, h1, rfl, rfl⟩ | ⟨a, b, t, rfl, h1, h2, rfl, rfl⟩ | ⟨a, b, c, t, rfl, h1, h2, h3, h4, h5, rfl, rfl⟩ | ⟨a, b, c, d, t, rfl, h1, h2, h3, h4, h5, h6, rfl, rfl⟩
  · simp only [List.getD_cons_zero, decodeN]; rw [if_pos h1]
  · simp only [List.getD_cons_zero, List.getD_cons_succ, List.length_cons, decodeN]
    generalize (List.getD t 0 0).toNat = x
    generalize (List.getD t 1 0).toNat = y
    generalize a.toNat = a at *
    generalize b.toNat = b at *
    repeat' split
    all_goals first | (exfalso; omega) | (apply Prod.ext <;> simp only <;> omega)
  · simp only [List.getD_cons_zero, List.getD_cons_succ, List.length_cons, decodeN]
    generalize (List.getD t 0 0).toNat = x
    generalize a.toNat = a at *
    generalize b.toNat = b at *
    generalize c.toNat = c at *
    repeat' split
    all_goals first | (exfalso; omega) | (apply Prod.ext <;> simp only <;> omega)
  · simp only [List.getD_cons_zero, List.getD_cons_succ, List.length_cons, decodeN]
    generalize a.toNat = a at *
    generalize b.toNat = b at *
    generalize c.toNat = c at *
    generalize d.toNat = d at *
    repeat' split
    all_goals first | (exfalso; omega) | (apply Prod.ext <;> simp only <;> omega)

theorem scalU_more : ∀ (f : Nat) (s : List UInt8), s.length ≤ f → scalU f s = scalarsU s := by
  have key : ∀ (f g : Nat) (s : List UInt8), s.length ≤ f → s.length ≤ g → scalU f s = scalU g s := by
    intro f
    induction f with
    | zero => intro g s hf _; obtain rfl := List.eq_nil_of_length_eq_zero (by omega : s.length = 0); cases g <;> rfl
    | succ f ih =>
      intro g s hf hg
      cases s with
      | nil => cases g <;> rfl
      | cons c t =>
        cases g with
        | zero => simp at hg
        | succ g =>
          simp only [scalU]
          rcases hd : decU (c :: t) with _ | ⟨r, n⟩
          · rfl
          · have := dec_ok hd
            simp only
            rw [ih g _ (by simp at hf ⊢; omega) (by simp at hg ⊢; omega)]
  exact fun f s h => key f s.length s h (Nat.le_refl _)
theorem scalars_step {s : List UInt8} (h : s ≠ []) : scalarsU s = match decU s with | none => none | some (r, n) => (scalarsU (s.drop n)).map ((r : Int) :: ·) := by
  cases s with
  | nil => exact absurd rfl h
  | cons c t =>
    unfold scalarsU
    simp only [List.length_cons, scalU]
    rcases hd : decU (c :: t) with _ | ⟨r, n⟩
    · rfl
    · have := dec_ok hd
      simp only
      rw [scalU_more t.length _ (by simp; omega)]
      rfl
theorem scalars_at {s : List UInt8} {p : Nat} {l : List Int} (hp : p < s.length) (h : scalarsU (s.drop p) = some l) :
    ∃ r n l', decU (s.drop p) = some (r, n) ∧ l = (r : Int) :: l' ∧ scalarsU (s.drop (p + n)) = some l' ∧ 1 ≤ n ∧ p + n ≤ s.length ∧ Utf8.decode ⟨s.toArray⟩ p = (r, n) ∧ scaR (r : Int) = true := by
  have hne : s.drop p ≠ [] := by
    intro e
    have := congrArg List.length e
    rw [List.length_drop] at this
    simp at this; omega
  rw [scalars_step hne] at h
  rcases hd : decU (s.drop p) with _ | ⟨r, n⟩
  · rw [hd] at h; cases h
  · rw [hd] at h
    simp only at h
    rw [List.drop_drop] at h
    have hn := dec_ok hd
    rw [List.length_drop] at hn
    rcases hx : scalarsU (s.drop (p + n)) with _ | l'
    · rw [hx] at h; cases h
    · rw [hx] at h
      simp only [Option.map_some, Option.some.injEq] at h
      exact ⟨r, n, l', rfl, h.symm, hx, hn.1, by omega, dec_model hd, hn.2.2.2⟩
end Go.Vir


namespace Go.Vir
open Go Go.Lib

def accU (s : List UInt8) (n k : Nat) : Nat := ((s.drop 1).take k).foldl (fun r b => 64 * r + (b.toNat - 128)) ((s.headD 0).toNat - markU n)
def badU (lo hi i : Nat) (c : Nat) : Prop := (i = 1 ∧ (c < lo ∨ hi < c)) ∨ c < 128 ∨ 191 < c
theorem accU_zero (s : List UInt8) (n : Nat) : accU s n 0 = (s.headD 0).toNat - markU n := rfl
theorem accU_step (s : List UInt8) (n k : Nat) (h : k + 1 < s.length) : accU s n (k + 1) = 64 * accU s n k + (s[k + 1].toNat - 128) := by
  unfold accU
  have hk : k < (s.drop 1).length := by rw [List.length_drop]; omega
  have e : (s.drop 1)[k] = s[k + 1] := by
    rw [List.getElem_drop]
    simp only [Nat.add_comm 1 k]
  rw [List.take_succ_eq_append_getElem hk, List.foldl_append, e]
  rfl
theorem row_small {c n lo hi : Nat} (h : rowU c = some (n, lo, hi)) : n ≤ 3 ∧ markU n ≤ c := by
  rcases row_cases h with h | h | h | h | h | h | h | h
  · obtain ⟨_, rfl⟩ := h; simp [markU]
  · obtain ⟨_, _, rfl, _⟩ := h; simp [markU]; omega
  · obtain ⟨_, rfl, _⟩ := h; simp [markU]; omega
  · obtain ⟨_, rfl, _⟩ := h; simp [markU]; omega
  · obtain ⟨_, _, _, rfl, _⟩ := h; simp [markU]; omega
  · obtain ⟨_, rfl, _⟩ := h; simp [markU]; omega
  · obtain ⟨_, _, rfl, _⟩ := h; simp [markU]; omega
  · obtain ⟨_, rfl, _⟩ := h; simp [markU]; omega
theorem dec_none {s : List UInt8} (h0 : 0 < s.length) (h : rowU (s.headD 0).toNat = none) : decU s = none := by
  cases s with
  | nil => simp at h0
  | cons a t => rw [decU_cons]; rw [List.headD_cons] at h; rw [h]
theorem dec_short {s : List UInt8} {n lo hi : Nat} (h0 : 0 < s.length) (h : rowU (s.headD 0).toNat = some (n, lo, hi)) (hl : s.length ≤ n) : decU s = none := by
  cases s with
  | nil => simp at h0
  | cons a t =>
    rw [decU_cons]; rw [List.headD_cons] at h; rw [h]
    simp only
    rw [if_neg]
    unfold goodU
    simp only [Bool.and_eq_true, decide_eq_true_eq, not_and]
    intro h1
    simp only [List.length_cons] at hl
    omega
theorem dec_bad {s : List UInt8} {n lo hi i : Nat} (h0 : 0 < s.length) (h : rowU (s.headD 0).toNat = some (n, lo, hi)) (hi1 : 1 ≤ i) (hin : i ≤ n) (hs : i < s.length) (hb : badU lo hi i s[i].toNat) : decU s = none := by
  cases s with
  | nil => simp at h0
  | cons a t =>
    rw [decU_cons]; rw [List.headD_cons] at h; rw [h]
    simp only
    obtain ⟨j, rfl⟩ : ∃ j, i = j + 1 := ⟨i - 1, by omega⟩
    have hj : j < t.length := by simpa using hs
    rw [List.getElem_cons_succ] at hb
    rw [if_neg]
    unfold goodU secU
    simp only [Bool.and_eq_true, decide_eq_true_eq, Bool.or_eq_true, List.all_eq_true, not_and]
    intro h1 h2 h3
    have ht := h3 t[j] (by rw [List.mem_iff_getElem]; exact ⟨j, by rw [List.length_take]; omega, by rw [List.getElem_take]⟩)
    unfold tailU at ht
    simp only [Bool.and_eq_true, decide_eq_true_eq] at ht
    rcases hb with ⟨e, hb⟩ | hb
    · obtain rfl : j = 0 := by omega
      have e : t.headD 0 = t[0] := by cases t with | nil => simp at hj | cons x t => rfl
      rw [e] at h2
      omega
    · omega
theorem dec_good {s : List UInt8} {n lo hi : Nat} (h : rowU (s.headD 0).toNat = some (n, lo, hi)) (hl : n < s.length) (hg : ∀ (i : Nat) (hs : i < s.length), 1 ≤ i → i ≤ n → ¬ badU lo hi i s[i].toNat) : decU s = some (accU s n n, n + 1) := by
  cases s with
  | nil => simp at hl
  | cons a t =>
    rw [decU_cons]; rw [List.headD_cons] at h; rw [h]
    simp only
    have hl2 : n ≤ t.length := by simp only [List.length_cons] at hl; omega
    rw [if_pos]
    · rfl
    · unfold goodU secU
      simp only [Bool.and_eq_true, decide_eq_true_eq, Bool.or_eq_true, List.all_eq_true]
      refine ⟨hl2, ?_, fun b hb => ?_⟩
      · by_cases h0 : n = 0
        · exact .inl h0
        · have := hg 1 (by omega) (by omega) (by omega)
          have e : t.headD 0 = (a :: t)[1]'(by omega) := by cases t with | nil => simp at hl2; omega | cons x t => rfl
          rw [e]
          unfold badU at this
          exact .inr (by omega)
      · rw [List.mem_iff_getElem] at hb
        obtain ⟨j, hj, rfl⟩ := hb
        rw [List.length_take] at hj
        rw [List.getElem_take]
        have := hg (j + 1) (by simp only [List.length_cons]; omega) (by omega) (by omega)
        rw [List.getElem_cons_succ] at this
        unfold badU at this
        unfold tailU
        simp only [Bool.and_eq_true, decide_eq_true_eq]
        omega
theorem accU_lt (s : List UInt8) (n : Nat) : ∀ k, accU s n k < 256 * 128 ^ k
  | 0 => by
    rw [accU_zero]
    have := UInt8.toNat_lt (s.headD 0)
    rw [Nat.pow_zero]; omega
  | k + 1 => by
    have ih := accU_lt s n k
    rw [Nat.pow_succ]
    generalize 128 ^ k = e at *
    rcases Nat.lt_or_ge (k + 1) s.length with h | h
    · rw [accU_step s n k h]
      have := UInt8.toNat_lt s[k + 1]
      omega
    · have e1 : accU s n (k + 1) = accU s n k := by
        unfold accU
        rw [List.take_of_length_le (by rw [List.length_drop]; omega), List.take_of_length_le (by rw [List.length_drop]; omega)]
      rw [e1]; omega
end Go.Vir


namespace Go.Vir
open Go Go.RowKit

def plainKey : TypeDesc → Bool
  | .int _ => true
  | .string => true
  | .bool => true
  | _ => false

section
variable {P : Program} {t K E : TypeId} {kd : TypeDesc} {r : Nat} {es : Array MapEntry} {clock : Nat} {key v : Value} {w : World}

theorem run_checkKey (b : Bool) (hk : P.underlying K = some kd) (hp : plainKey kd = true) : (Instr.checkKey b 10000 K key).run P w = .ok () w := by
  show (Instr.checkKey b (9999 + 1) K key).run P w = .ok () w
  unfold Instr.checkKey
  simp only [Sem.run_bind, run_underlying hk, Result.andThen]
  cases kd <;> first | (simp [plainKey] at hp; done) | (cases key <;> rfl)

theorem run_findKey (hk : P.underlying K = some kd) {x : Option (Nat × Value)} {l : List MapEntry} (hf : Instr.findNow kd key l 0 = some x) : (Instr.findKey K key l).run P w = .ok x w := by
  unfold Instr.findKey
  simp only [Sem.run_bind, run_underlying hk, Result.andThen, hf]
  rfl

theorem run_getMap (hb : w.heap[r]? = some (.map es clock)) : (getObj r).run P w = .ok (.map es clock) w := by simp [getObj, Sem.run, hb]
theorem run_setMap (o : Obj) (hb : w.heap[r]? = some (.map es clock)) : (setObj r o).run P w = .ok () (w.putObj r o) := by simp [setObj, Sem.run, hb, World.putObj]

theorem run_insert_new (ht : P.underlying t = some (.map K E)) (hk : P.underlying K = some kd) (hp : plainKey kd = true) (hb : w.heap[r]? = some (.map es clock)) (hf : Instr.findNow kd key es.toList 0 = some none) :
    (Instr.mapUpdate t (.map (some r)) key v).run P w = .ok () (w.putObj r (.map (es.push { key, val := v, born := clock }) (clock + 1))) := by
  unfold Instr.mapUpdate
  simp only [Sem.run_bind, run_underlying ht, Result.andThen, run_getMap hb, run_checkKey false hk hp, run_findKey hk hf, run_setMap _ hb]

theorem run_lookup_at (ok : Bool) (ht : P.underlying t = some (.map K E)) (hk : P.underlying K = some kd) (hp : plainKey kd = true) (hb : w.heap[r]? = some (.map es clock)) {i : Nat} {u : Value} (hf : Instr.findNow kd key es.toList 0 = some (some (i, u))) :
    (Instr.lookup t (.map (some r)) key ok).run P w = .ok (if ok then .tuple #[u, .bool true] else u) w := by
  unfold Instr.lookup
  simp only [Sem.run_bind, run_underlying ht, Result.andThen, run_getMap hb, run_checkKey _ hk hp, run_findKey hk hf, Sem.run_pure]

theorem run_lookup_none (ok : Bool) {z : Value} (ht : P.underlying t = some (.map K E)) (hk : P.underlying K = some kd) (hp : plainKey kd = true) (hb : w.heap[r]? = some (.map es clock)) (hz : (zeroValue E).run P w = .ok z w) (hf : Instr.findNow kd key es.toList 0 = some none) :
    (Instr.lookup t (.map (some r)) key ok).run P w = .ok (if ok then .tuple #[z, .bool false] else z) w := by
  unfold Instr.lookup
  simp only [Sem.run_bind, run_underlying ht, Result.andThen, run_getMap hb, run_checkKey _ hk hp, run_findKey hk hf, Sem.run_pure, hz]

end
end Go.Vir


namespace Go.Vir
open Go Go.RowKit

abbrev KI := List (Int × Int)

def intV (kd : IntKind) (k : Int) : Value := .int kd k

def AscI (kd : IntKind) (es : Array MapEntry) (kvs : KI) : Prop := es.toList.map (fun e => (e.key, e.val)) = kvs.map fun x => (intV kd x.1, Value.int .i64 x.2)

def lookI (k : Int) : KI → Nat → Option (Nat × Int)
  | [], _ => none
  | x :: t, i => if x.1 = k then some (i, x.2) else lookI k t (i + 1)
def updI (k : Int) (v : Int) : KI → KI
  | [] => [(k, v)]
  | x :: t => if x.1 = k then (k, v) :: t else x :: updI k v t

theorem findNow_ascI {kd : IntKind} (k : Int) : ∀ (l : List MapEntry) (kvs : KI) (i : Nat), l.map (fun e => (e.key, e.val)) = kvs.map (fun x => (intV kd x.1, Value.int .i64 x.2)) →
    Instr.findNow (.int kd) (intV kd k) l i = some ((lookI k kvs i).map fun x => (x.1, Value.int .i64 x.2))
  | [], [], _, _ => rfl
  | [], _ :: _, _, h => by simp at h
  | _ :: _, [], _, h => by simp at h
  | e :: l, x :: t, i, h => by
    simp only [List.map_cons, List.cons.injEq, Prod.mk.injEq] at h
    obtain ⟨⟨h1, h2⟩, h3⟩ := h
    unfold Instr.findNow
    rw [h1, h2]
    have hs : Instr.sameNow (.int kd) (intV kd k) (intV kd x.1) = some (decide (x.1 = k)) := by
      show (if kd = kd then some (k == x.1) else none) = _
      rw [if_pos rfl]
      congr 1
      rw [Bool.eq_iff_iff, beq_iff_eq, decide_eq_true_eq]
      exact eq_comm
    rw [hs]
    by_cases hk : x.1 = k
    · simp [hk, lookI]
    · simp only [hk, decide_false, lookI, if_false]
      exact findNow_ascI k l t (i + 1) h3

theorem lookI_some {k : Int} : ∀ {kvs : KI} {i j : Nat} {v : Int}, lookI k kvs i = some (j, v) → ∃ h : j - i < kvs.length, i ≤ j ∧ kvs[j - i] = (k, v)
  | [], _, _, _, h => by simp [lookI] at h
  | x :: t, i, j, v, h => by
    unfold lookI at h
    by_cases hk : x.1 = k
    · rw [if_pos hk] at h
      simp only [Option.some.injEq, Prod.mk.injEq] at h
      obtain ⟨rfl, rfl⟩ := h
      exact ⟨by simp, Nat.le_refl _, by simp [← hk]⟩
    · rw [if_neg hk] at h
      obtain ⟨h1, h2, h3⟩ := lookI_some h
      refine ⟨by simp; omega, by omega, ?_⟩
      have : j - i = (j - (i + 1)) + 1 := by omega
      simp only [this, List.getElem_cons_succ]
      exact h3

theorem updI_new {k : Int} {v : Int} : ∀ {kvs : KI} {i : Nat}, lookI k kvs i = none → updI k v kvs = kvs ++ [(k, v)]
  | [], _, _ => rfl
  | x :: t, i, h => by
    unfold lookI at h
    by_cases hk : x.1 = k
    · rw [if_pos hk] at h; cases h
    · rw [if_neg hk] at h
      rw [updI, if_neg hk, updI_new h]; rfl
theorem updI_at {k : Int} (v : Int) : ∀ {kvs : KI} {i j : Nat} {u : Int}, lookI k kvs i = some (j, u) → updI k v kvs = kvs.set (j - i) (k, v)
  | [], _, _, _, h => by simp [lookI] at h
  | x :: t, i, j, u, h => by
    unfold lookI at h
    by_cases hk : x.1 = k
    · rw [if_pos hk] at h
      simp only [Option.some.injEq, Prod.mk.injEq] at h
      obtain ⟨rfl, rfl⟩ := h
      simp [updI, hk]
    · rw [if_neg hk] at h
      have h2 := (lookI_some h).2.1
      rw [updI, if_neg hk, updI_at v h, show j - i = (j - (i + 1)) + 1 by omega, List.set_cons_succ]

section
variable {kd : IntKind} {P : Program} {t K E : TypeId} {r : Nat} {es : Array MapEntry} {clock : Nat} {w : World} {kvs : KI} {k : Int}

theorem run_look_ki (ok : Bool) (ht : P.underlying t = some (.map K E)) (hk : P.underlying K = some (.int kd)) (hz : (zeroValue E).run P w = .ok (.int .i64 0) w) (hb : w.heap[r]? = some (.map es clock)) (ha : AscI kd es kvs) :
    (Instr.lookup t (.map (some r)) (intV kd k) ok).run P w = .ok (if ok then .tuple #[.int .i64 (((lookI k kvs 0).map (·.2)).getD 0), .bool (lookI k kvs 0).isSome] else .int .i64 (((lookI k kvs 0).map (·.2)).getD 0)) w := by
  have hf := findNow_ascI k es.toList kvs 0 ha
  rcases hl : lookI k kvs 0 with _ | ⟨i, v⟩
  · rw [hl] at hf
    rw [run_lookup_none ok ht hk rfl hb hz hf]
    rfl
  · rw [hl] at hf
    rw [run_lookup_at ok ht hk rfl hb hf]
    rfl

theorem run_upd_ki (v : Int) (ht : P.underlying t = some (.map K E)) (hk : P.underlying K = some (.int kd)) (hb : w.heap[r]? = some (.map es clock)) (ha : AscI kd es kvs) :
    ∃ es' clock', (Instr.mapUpdate t (.map (some r)) (intV kd k) (.int .i64 v)).run P w = .ok () (w.putObj r (.map es' clock')) ∧ AscI kd es' (updI k v kvs) := by
  have hf := findNow_ascI k es.toList kvs 0 ha
  rcases hl : lookI k kvs 0 with _ | ⟨i, u⟩
  · rw [hl] at hf
    refine ⟨_, _, run_insert_new ht hk rfl hb hf, ?_⟩
    unfold AscI at ha ⊢
    rw [Array.toList_push, List.map_append, ha, updI_new hl, List.map_append]
    rfl
  · rw [hl] at hf
    obtain ⟨h1, h2, h3⟩ := lookI_some hl
    simp only [Nat.sub_zero] at h1 h3
    have hlen : es.toList.length = kvs.length := by
      have := congrArg List.length ha
      simpa using this
    have hes : (es[i]?).map (·.key) = some (intV kd k) := by
      have h4 : (es.toList.map (fun e => (e.key, e.val)))[i]? = some (intV kd k, Value.int .i64 u) := by
        rw [ha, List.getElem?_map, List.getElem?_eq_getElem h1, h3]; rfl
      rw [List.getElem?_map] at h4
      rw [← Array.getElem?_toList]
      cases hh : es.toList[i]? with
      | none => rw [hh] at h4; cases h4
      | some e => rw [hh] at h4; simp only [Option.map_some, Option.some.injEq, Prod.mk.injEq] at h4; simp [h4.1]
    have hkey : ((es[i]?).map (·.key)).getD (intV kd k) = intV kd k := by rw [hes]; rfl
    have hsame : Instr.sameBits 10000 (intV kd k) (intV kd k) = true := by
      show (kd == kd && k == k) = true
      simp
    refine ⟨es.modify i fun e => { e with key := intV kd k, val := .int .i64 v }, clock, ?_, ?_⟩
    · unfold Instr.mapUpdate
      simp only [Sem.run_bind, run_underlying ht, Result.andThen, run_getMap hb, run_checkKey false hk rfl, run_findKey hk hf, Option.map_some, hkey, Instr.keyThatStays, hsame, if_true, Sem.run_pure, run_setMap _ hb]
    · unfold AscI
      have hu := updI_at v hl
      simp only [Nat.sub_zero] at hu
      rw [hu]
      apply List.ext_getElem?
      intro j
      have hj : (es.toList.map (fun e => (e.key, e.val)))[j]? = (kvs.map fun x => (intV kd x.1, Value.int .i64 x.2))[j]? := by rw [ha]
      rw [List.getElem?_map, List.getElem?_map] at hj
      rw [List.getElem?_map, List.getElem?_map, Array.toList_modify, List.getElem?_modify, List.getElem?_set]
      by_cases hij : i = j
      · subst hij
        rw [if_pos rfl, if_pos h1]
        cases hh : es.toList[i]? with
        | none => rw [List.getElem?_eq_none_iff] at hh; omega
        | some e => simp
      · rw [if_neg hij]
        simpa [hij] using hj
end

def valI (k : Int) : KI → Option Int
  | [] => none
  | x :: t => if x.1 = k then some x.2 else valI k t
theorem look_valI (k : Int) : ∀ (kvs : KI) (i : Nat), (lookI k kvs i).map (·.2) = valI k kvs
  | [], _ => rfl
  | x :: t, i => by
    unfold lookI valI
    by_cases hk : x.1 = k
    · simp [hk]
    · simp only [hk, if_false]; exact look_valI k t (i + 1)
theorem valI_upd (k : Int) (v : Int) (k' : Int) : ∀ kvs : KI, valI k' (updI k v kvs) = if k = k' then some v else valI k' kvs
  | [] => by simp [updI, valI]
  | x :: t => by
    unfold updI
    by_cases hk : x.1 = k
    · simp only [hk, if_true, valI]
      by_cases h2 : k = k'
      · simp [h2]
      · simp [h2]
    · simp only [hk, if_false, valI]
      rw [valI_upd k v k' t]
      by_cases h2 : x.1 = k'
      · have : ¬ k = k' := fun h => hk (by rw [h2, h])
        simp [h2, this]
      · simp [h2]
theorem wpList_upd_ki {kd : IntKind} {P : Program} {t K E : TypeId} {r : Nat} {es : Array MapEntry} {clock : Nat} {w : World} {kvs : KI} {k : Int} {v : Int}
    {ops : Array Oper} {rest : List Oper} {o : Oper} {a : Act} {Q : Exit → Act → World → Prop} (hg : o.guard = none) {m kk x : Operand} (hop : o.op = .mapUpdate t m kk x)
    (hm : a.eval m = .map (some r)) (hkv : a.eval kk = intV kd k) (hxv : a.eval x = .int .i64 v)
    (ht : P.underlying t = some (.map K E)) (hk : P.underlying K = some (.int kd)) (hb : w.heap[r]? = some (.map es clock)) (ha : AscI kd es kvs)
    (h : ∀ es' clock', AscI kd es' (updI k v kvs) → wpList P ops Q rest (a.put o.dst undef) (w.putObj r (.map es' clock'))) : wpList P ops Q (o :: rest) a w := by
  obtain ⟨es', clock', hrun, h1⟩ := run_upd_ki (P := P) (t := t) (k := k) v ht hk hb ha
  refine wpList_plain hg fun Kn hK => ?_
  unfold Oper.wp
  simp only [execOp, hop, hm, hkv, hxv, Sem.run_bind, hrun, Result.andThen]
  exact hK _ _ (h es' clock' h1)

end Go.Vir


namespace Go.Vir
open Go Go.RowKit

def isData : Obj → Bool
  | .cells .. => true
  | .map .. => true
  | _ => false

structure Apart (O : Nat → Prop) (A B : World) : Prop where
  os : B.os = A.os
  tape : B.tape = A.tape
  output : B.output = A.output
  size : A.heap.size ≤ B.heap.size
  block : ∀ k : Nat, k < A.heap.size → ¬ O k → B.heap[k]? = A.heap[k]?

structure Moves (B0 : Nat) (O : Nat → Prop) (A B : World) : Prop where
  os : B.os = A.os
  tape : B.tape = A.tape
  output : B.output = A.output
  size : A.heap.size ≤ B.heap.size
  low : ∀ k : Nat, k < B0 → ¬ O k → B.heap[k]? = A.heap[k]?
  data : ∀ (k : Nat) (o : Obj), A.heap[k]? = some o → isData o = true → ¬ O k → B.heap[k]? = some o

structure Keeps (B0 : Nat) (O : Nat → Prop) (A B : World) : Prop where
  size : A.heap.size ≤ B.heap.size
  low : ∀ k : Nat, k < B0 → B.heap[k]? = A.heap[k]?
  own : ∀ k : Nat, O k → B.heap[k]? = A.heap[k]?
  other : ∀ (k : Nat) (o : Obj), A.heap[k]? = some o → isData o = false → B.heap[k]? = some o

section
variable {B0 : Nat} {O : Nat → Prop} {A B C : World}

theorem Apart.refl (O : Nat → Prop) (A : World) : Apart O A A := ⟨rfl, rfl, rfl, Nat.le_refl _, fun _ _ _ => rfl⟩
theorem Apart.trans (h : Apart O A B) (k : Apart O B C) : Apart O A C :=
  ⟨k.os.trans h.os, k.tape.trans h.tape, k.output.trans h.output, Nat.le_trans h.size k.size, fun i hi ho => (k.block i (Nat.lt_of_lt_of_le hi h.size) ho).trans (h.block i hi ho)⟩
theorem Apart.below (h : Below A.heap.size A B) : Apart O A B := ⟨h.os, h.tape, h.output, h.size, fun k hk _ => h.block k hk⟩
theorem Apart.alloc (A : World) (o : Obj) : Apart O A (A.alloc o) := Apart.below ((Below.refl _ A).alloc (Nat.le_refl _) o)
theorem Apart.drew (A : World) : Apart O A A.drew := Apart.below (Below.refl _ A).drew
theorem Apart.setCell (A : World) {p : Addr} (hp : O p.block) (u : Value) : Apart O A (A.setCell p u) :=
  ⟨rfl, rfl, rfl, by simp [World.setCell], fun k _ ho => Below.heap_setCell _ _ _ _ (fun e => ho (e ▸ hp))⟩

theorem Moves.refl (B0 : Nat) (O : Nat → Prop) (A : World) : Moves B0 O A A := ⟨rfl, rfl, rfl, Nat.le_refl _, fun _ _ _ => rfl, fun _ _ h _ _ => h⟩
theorem Moves.trans (h : Moves B0 O A B) (k : Moves B0 O B C) : Moves B0 O A C :=
  ⟨k.os.trans h.os, k.tape.trans h.tape, k.output.trans h.output, Nat.le_trans h.size k.size, fun i hi ho => (k.low i hi ho).trans (h.low i hi ho),
   fun i o hi hd ho => k.data i o (h.data i o hi hd ho) hd ho⟩
theorem Apart.moves (h : Apart O A B) (hB : B0 ≤ A.heap.size) : Moves B0 O A B :=
  ⟨h.os, h.tape, h.output, h.size, fun k hk ho => h.block k (by omega) ho, fun k o hk _ ho => (h.block k (Array.getElem?_eq_some_iff.1 hk).1 ho).trans hk⟩
theorem Moves.putObj {l : Nat} {o o' : Obj} (hl : B0 ≤ l) (h : A.heap[l]? = some o) (ho : isData o = false) : Moves B0 O A (A.putObj l o') :=
  ⟨rfl, rfl, rfl, by simp, fun k hk _ => World.putObj_heap_other (by omega), fun k o2 hk hd _ => by
    by_cases e : k = l
    · subst e; rw [h] at hk; cases hk; rw [ho] at hd; cases hd
    · rw [World.putObj_heap_other e]; exact hk⟩

theorem Keeps.refl (B0 : Nat) (O : Nat → Prop) (A : World) : Keeps B0 O A A := ⟨Nat.le_refl _, fun _ _ => rfl, fun _ _ => rfl, fun _ _ h _ => h⟩
theorem Keeps.less {O' : Nat → Prop} (h : Keeps B0 O A B) (hO : ∀ k, O' k → O k) : Keeps B0 O' A B := ⟨h.size, h.low, fun k hk => h.own k (hO k hk), h.other⟩
theorem Keeps.trans (h : Keeps B0 O A B) (k : Keeps B0 O B C) : Keeps B0 O A C :=
  ⟨Nat.le_trans h.size k.size, fun i hi => (k.low i hi).trans (h.low i hi), fun i hi => (k.own i hi).trans (h.own i hi), fun i o hi hd => k.other i o (h.other i o hi hd) hd⟩
theorem Keeps.below (hO : ∀ k, O k → k < A.heap.size) (hB : B0 ≤ A.heap.size) (h : Below A.heap.size A B) : Keeps B0 O A B :=
  ⟨h.size, fun k hk => h.block k (by omega), fun k hk => h.block k (hO k hk), fun k o hk _ => (h.block k (Array.getElem?_eq_some_iff.1 hk).1).trans hk⟩
theorem Keeps.setCell (A : World) {p : Addr} (hp : ¬ O p.block) (hB : B0 ≤ p.block) (u : Value) : Keeps B0 O A (A.setCell p u) :=
  ⟨by simp [World.setCell], fun k hk => Below.heap_setCell _ _ _ _ (by omega), fun k hk => Below.heap_setCell _ _ _ _ (fun e => hp (e ▸ hk)), fun k o hk hd => by
    by_cases e : k = p.block
    · subst e
      simp only [World.setCell, Array.getElem?_modify, if_true, hk, Option.map_some]
      cases o <;> first | rfl | (simp [isData] at hd)
    · exact (Below.heap_setCell _ _ _ _ e).trans hk⟩
theorem Keeps.grown {row : Option Nat} (hO : ∀ k, O k → k < A.heap.size) (hB : B0 ≤ A.heap.size) (hg : A.grownBy B row)
    (hr : ∀ k, row = some k → B0 ≤ k ∧ ¬ O k ∧ ∃ o, A.heap[k]? = some o ∧ isData o = true) : Keeps B0 O A B :=
  ⟨hg.size, fun k hk => hg.block k (by omega) (fun e => by have := (hr k e.symm).1; omega), fun k hk => hg.block k (hO k hk) (fun e => (hr k e.symm).2.1 hk),
   fun k o hk hd => (hg.block k (Array.getElem?_eq_some_iff.1 hk).1 (fun e => by
     obtain ⟨_, _, o', h1, h2⟩ := hr k e.symm
     rw [hk] at h1; cases h1; rw [hd] at h2; cases h2)).trans hk⟩
end

def Iter (P : Program) (gf : Nat) (lb : Array Value) (N : Nat) (encs : Nat → Array Value) (O : Nat → Prop) (B0 : Nat) (W0 : World) : Prop :=
  ∀ (l : Nat) (J Jx : Nat → World → Prop) (W : World), Below W0.heap.size W0 W →
    (∀ i A B, J i A → Apart O A B → J i B) → (∀ i A B, Jx i A → Apart O A B → Jx i B) →
    (∀ i W, i < N → J i W → YieldAt Fence.wide 0 P l (encs i) W fun e W' =>
      (e = .returned (.bool true) ∧ J (i + 1) W' ∧ Keeps B0 O W W') ∨ (e = .returned (.bool false) ∧ Jx i W')) →
    J 0 W → CallsIn Fence.wide 0 P gf (#[.func (.yield l) #[] #[]] ++ lb) W fun e W' => (∃ v, e = .returned v) ∧ (J N W' ∨ ∃ i, i < N ∧ Jx i W')

def roundEnd (B0 : Nat) (O : Nat → Prop) (I : Nat → World → Prop) (Ix : Nat → Code → World → Prop) (i : Nat) (W : World) : Exit → Act → World → Prop
  | .normal, _, W' => Keeps B0 O W W' ∧ I (i + 1) W'
  | .ret, _, W' => Keeps B0 O W W' ∧ Ix i .ret W'
  | .exit id, _, W' => Keeps B0 O W W' ∧ Ix i (.exit id) W'
  | .goto t, _, W' => Keeps B0 O W W' ∧ Ix i (.goto t) W'
  | .panic _, _, _ => False
  | .outgrown, _, _ => False

theorem range_law {P : Program} {g : Operand} {ps : Array Tmp} {assign body : Code} {Q : Exit → Act → World → Prop} {a : Act} {w : World}
    {gf : Nat} {lb : Array Value} {N : Nat} {encs : Nat → Array Value} {O : Nat → Prop} {B0 : Nat} {W0 : World}
    (hg : a.eval g = .func (.func gf) #[] lb) (eg : ∀ args w, (callFunc gf args).run P w = .ok (.enter gf args) w)
    (hit : Iter P gf lb N encs O B0 W0) (hb0 : Below W0.heap.size W0 w) (hO : ∀ k, O k → k < w.heap.size) (hB0 : B0 ≤ w.heap.size)
    (hps : ∀ i, (encs i).size = ps.size)
    (I : Nat → World → Prop) (Ix : Nat → Code → World → Prop)
    (hI : ∀ i A B, I i A → Moves B0 O A B → I i B) (hIx : ∀ i c A B, Ix i c A → Moves B0 O A B → Ix i c B) (h0 : I 0 w) (a₁ : Nat → Act)
    (hassign : ∀ (l i : Nat) (W : World) (K : Act → World → Prop), K (a₁ i) W →
      assign.wpIn (Fence.wide.inRound l) 0 P (Exit.then K (fun _ _ _ => False)) { tmps := (ps.zip (encs i)).foldl (fun t (p, v) => t.setIfInBounds p v) a.tmps, defers := [] } W)
    (hbody : ∀ (l i : Nat) (W : World), i < N → I i W → w.heap.size ≤ W.heap.size → body.wpIn (Fence.wide.inRound l) 0 P (roundEnd B0 O I Ix i W) (a₁ i) W)
    (hdone : ∀ (D : Nat) (W : World), w.heap.size ≤ D → I N W → W.heap[D]? = some (.deferred (some [])) → Q .normal { a with defers := { target := .collected D, args := #[] } :: a.defers } W)
    (hstop : ∀ (D i : Nat) (c : Code) (W : World), w.heap.size ≤ D → i < N → Ix i c W → W.heap[D]? = some (.deferred (some [])) → c.wpIn Fence.wide 0 P Q { a with defers := { target := .collected D, args := #[] } :: a.defers } W) :
    (Code.rangeFunc g ps assign body).wpIn Fence.wide 0 P Q a w := by
  refine wpIn_rangeFunc ?_
  intro fn hfn
  obtain ⟨rec, hrec⟩ : ∃ rec : LoopState → Option Code → Loop, rec = fun st pe => { state := st, pending := pe, fn, tmps := a.tmps, params := ps, assign, body, defers := w.heap.size } := ⟨_, rfl⟩
  obtain ⟨W1, hW1⟩ : ∃ W1, (w.alloc (.deferred (some []))).alloc (.loop (rec .ready none)) = W1 := ⟨_, rfl⟩
  have hL1 : W1.heap[w.heap.size + 1]? = some (.loop (rec .ready none)) := by
    rw [← hW1]; have := World.alloc_heap_new (w.alloc (.deferred (some []))) (.loop (rec .ready none)); rwa [World.size_alloc] at this
  have hK1 : W1.heap[w.heap.size]? = some (.deferred (some [])) := by
    rw [← hW1]; exact (Below.heap_alloc _ _ _ (by simp)).trans (World.alloc_heap_new w _)
  have hsz : W1.heap.size = w.heap.size + 2 := by rw [← hW1]; simp
  have hbw : Below w.heap.size w W1 := by rw [← hW1]; exact ((Below.refl _ w).alloc (Nat.le_refl _) _).alloc (by simp) _
  have hI1 : I 0 W1 := hI _ _ _ h0 ((Apart.below hbw).moves hB0)
  have hb1 : Below W0.heap.size W0 W1 := hb0.trans (hbw.mono hb0.size)
  refine ⟨w.heap.size + 1, [{ target := .collected w.heap.size, args := #[] }], W1, { target := .fn (.func gf) lb, args := #[.func (.yield (w.heap.size + 1)) #[] #[]] }, W1, gf,
    #[.func (.yield (w.heap.size + 1)) #[] #[]] ++ lb, W1, ?_, ?_, ?_, ?_, fun _ => by simp [Fence.wide] at *, ?_⟩
  · rw [← hW1, hrec]; exact run_enterLoop_outer _ _ _ _ _
  · simp only [resolve, hg]
    simp [go_sem]
  · intro f' _; trivial
  · simp [invoke, go_sem, eg]
  · have hnO : ∀ k, w.heap.size ≤ k → ¬ O k := fun k hk ho => by have := hO k ho; omega
    refine (hit (w.heap.size + 1)
      (fun i W => I i W ∧ W.heap[w.heap.size + 1]? = some (.loop (rec .ready none)) ∧ W.heap[w.heap.size]? = some (.deferred (some [])))
      (fun i W => ∃ c, Ix i c W ∧ W.heap[w.heap.size + 1]? = some (.loop (rec .done (some c))) ∧ W.heap[w.heap.size]? = some (.deferred (some [])))
      W1 hb1 ?_ ?_ ?_ ⟨hI1, hL1, hK1⟩).mono ?_
    · rintro i A B ⟨h1, h2, h3⟩ hap
      have hs := (Array.getElem?_eq_some_iff.1 h2).1
      exact ⟨hI _ _ _ h1 (hap.moves (by omega)), (hap.block _ hs (hnO _ (by omega))).trans h2, (hap.block _ (by omega) (hnO _ (by omega))).trans h3⟩
    · rintro i A B ⟨c, h1, h2, h3⟩ hap
      have hs := (Array.getElem?_eq_some_iff.1 h2).1
      exact ⟨c, hIx _ _ _ _ h1 (hap.moves (by omega)), (hap.block _ hs (hnO _ (by omega))).trans h2, (hap.block _ (by omega) (hnO _ (by omega))).trans h3⟩
    · rintro i W hi ⟨hi0, hl, hk⟩
      have hlt : w.heap.size + 1 < W.heap.size := (Array.getElem?_eq_some_iff.1 hl).1
      have hy := run_yield (P := P) (args := encs i) hl (by rw [hrec]; exact hps i)
      rw [hrec] at hy
      refine ⟨fn, _, assign, body, hy, roundIn_of_wpIn hfn (hassign _ i W _ ⟨_, run_beginRound hl (by rw [hrec]), ?_⟩)⟩
      have hl2 : (W.putObj (w.heap.size + 1) (.loop { rec .ready none with state := .busy })).heap[w.heap.size + 1]? = some (.loop { rec .ready none with state := .busy }) := World.putObj_heap_same hlt
      have hk2 : (W.putObj (w.heap.size + 1) (.loop { rec .ready none with state := .busy })).heap[w.heap.size]? = some (.deferred (some [])) := (World.putObj_heap_other (by omega)).trans hk
      refine wpIn_mono (hbody _ i _ hi (hI _ _ _ hi0 (Moves.putObj (by omega) hl rfl)) (by simp; omega)) ?_
      have fin : ∀ (jump : Option Code) (W3 : World), Keeps B0 O (W.putObj (w.heap.size + 1) (.loop { rec .ready none with state := .busy })) W3 →
          (Instr.endRound (w.heap.size + 1) jump).run P W3 = .ok (.bool jump.isNone) (W3.putObj (w.heap.size + 1) (.loop (rec (if jump.isNone then .ready else .done) jump))) ∧
          W3.heap[w.heap.size + 1]? = some (.loop { rec .ready none with state := .busy }) ∧
          (W3.putObj (w.heap.size + 1) (.loop (rec (if jump.isNone then .ready else .done) jump))).heap[w.heap.size + 1]? = some (.loop (rec (if jump.isNone then .ready else .done) jump)) ∧
          (W3.putObj (w.heap.size + 1) (.loop (rec (if jump.isNone then .ready else .done) jump))).heap[w.heap.size]? = some (.deferred (some [])) := fun jump W3 hk3 => by
        have hl3 := hk3.other _ _ hl2 rfl
        have := run_endRound (P := P) jump hl3
        rw [hrec] at this ⊢
        exact ⟨this, by rw [hrec] at hl3; exact hl3, World.putObj_heap_same (Array.getElem?_eq_some_iff.1 hl3).1, (World.putObj_heap_other (by omega)).trans (hk3.other _ _ hk2 rfl)⟩
      rintro e a3 W3 hp
      cases e with
      | normal =>
        obtain ⟨hk3, hi3⟩ := hp
        obtain ⟨hr, hl3, hl4, hk4⟩ := fin none W3 hk3
        refine ⟨_, _, hr, .inl ⟨rfl, ⟨hI _ _ _ hi3 (Moves.putObj (by omega) hl3 rfl), hl4, hk4⟩, ?_⟩⟩
        have hs3 : w.heap.size + 1 < W3.heap.size := (Array.getElem?_eq_some_iff.1 hl3).1
        refine ⟨by have := hk3.size; simp at this ⊢; omega, fun k hk => ?_, fun k hk => ?_, fun k o ho hd => ?_⟩
        · rw [World.putObj_heap_other (by omega), hk3.low k hk, World.putObj_heap_other (by omega)]
        · have := hO k hk
          rw [World.putObj_heap_other (by omega), hk3.own k hk, World.putObj_heap_other (by omega)]
        · by_cases e : k = w.heap.size + 1
          · subst e; rw [hl] at ho; cases ho; exact hl4
          · rw [World.putObj_heap_other e]
            exact hk3.other k o (by rw [World.putObj_heap_other e]; exact ho) hd
      | ret =>
        obtain ⟨hk3, hi3⟩ := hp
        obtain ⟨hr, hl3, hl4, hk4⟩ := fin (some .ret) W3 hk3
        exact ⟨_, _, hr, .inr ⟨rfl, .ret, hIx _ _ _ _ hi3 (Moves.putObj (by omega) hl3 rfl), hl4, hk4⟩⟩
      | exit id =>
        obtain ⟨hk3, hi3⟩ := hp
        obtain ⟨hr, hl3, hl4, hk4⟩ := fin (some (.exit id)) W3 hk3
        exact ⟨_, _, hr, .inr ⟨rfl, .exit id, hIx _ _ _ _ hi3 (Moves.putObj (by omega) hl3 rfl), hl4, hk4⟩⟩
      | goto t =>
        obtain ⟨hk3, hi3⟩ := hp
        obtain ⟨hr, hl3, hl4, hk4⟩ := fin (some (.goto t)) W3 hk3
        exact ⟨_, _, hr, .inr ⟨rfl, .goto t, hIx _ _ _ _ hi3 (Moves.putObj (by omega) hl3 rfl), hl4, hk4⟩⟩
      | panic ch => exact hp.elim
      | outgrown => exact hp.elim
    · rintro e W2 ⟨⟨v, rfl⟩, (⟨hi, hl, hk⟩ | ⟨i, hiN, c, hi, hl, hk⟩)⟩
      · exact ⟨none, _, by have := run_endLoop (P := P) hl (by rw [hrec]; simp); rw [hrec] at this; exact this, hdone _ _ (Nat.le_refl _) (hI _ _ _ hi (Moves.putObj (by omega) hl rfl)) ((World.putObj_heap_other (by omega)).trans hk)⟩
      · exact ⟨some c, _, by have := run_endLoop (P := P) hl (by rw [hrec]; simp); rw [hrec] at this; exact this, hstop _ i c _ (Nat.le_refl _) hiN (hIx _ _ _ _ hi (Moves.putObj (by omega) hl rfl)) ((World.putObj_heap_other (by omega)).trans hk)⟩

theorem wp_gen {P : Program} {c : Code} {Q : Exit → Act → World → Prop} {a : Act} {w : World} (h : ∀ W, W = w → c.wp P Q a W) : c.wp P Q a w := h w rfl

theorem heap_new {w : World} {o : Obj} {k : Nat} (h : k = w.heap.size) : (w.alloc o).heap[k]? = some o := by
  subst h; exact World.alloc_heap_new w o
theorem heap_old {w : World} {o : Obj} {k : Nat} (h : k < w.heap.size) : (w.alloc o).heap[k]? = w.heap[k]? := Below.heap_alloc w o k h
theorem heap_drew (w : World) (k : Nat) : w.drew.heap[k]? = w.heap[k]? := rfl
theorem heap_laws : (∀ {w : World} {o : Obj} {k : Nat}, k = w.heap.size → (w.alloc o).heap[k]? = some o) ∧ (∀ {w : World} {o : Obj} {k : Nat}, k < w.heap.size → (w.alloc o).heap[k]? = w.heap[k]?) ∧
    (∀ (w : World) (k : Nat), w.drew.heap[k]? = w.heap[k]?) := ⟨heap_new, heap_old, heap_drew⟩
theorem Below.moves {B B0 : Nat} {O : Nat → Prop} {w A C : World} (h : Below B w A) (hm : Moves B0 O A C) (hB : B ≤ B0) (hO : ∀ k, O k → B ≤ k) : Below B w C :=
  ⟨hm.os.trans h.os, hm.tape.trans h.tape, hm.output.trans h.output, Nat.le_trans h.size hm.size, fun k hk => (hm.low k (by omega) (fun ho => by have := hO k ho; omega)).trans (h.block k hk)⟩
theorem Moves.cells {B0 : Nat} {O : Nat → Prop} {A C : World} (hm : Moves B0 O A C) {k : Nat} {cs : Array Value} {t : TypeId} {m : Nat × Nat} (h : A.heap[k]? = some (.cells cs t m)) (hk : ¬ O k) : C.heap[k]? = some (.cells cs t m) :=
  hm.data _ _ h rfl hk

theorem wpListIn_append_at {F : Fence} {n : Nat} {P : Program} (w : World) {ops : Array Oper} {rest : List Oper} {o : Oper} {a : Act} {Q : Exit → Act → World → Prop}
    (hg : o.guard = none) (s x : Operand) (t : TypeId) (hop : o.op = Op.call { callee := Callee.builtin Builtin.append, args := #[s, x], argTypes := #[t, t] })
    (base : Nat) (e : TypeId) (i : TypeInfo) (z : Value) (size bytes : Nat) (h1 : P.underlying t = some (.slice e)) (h2 : P.info? e = some i) (h3 : i.zero = some z) (h4 : i.size = size) (h5 : i.bytes = bytes) (h6 : z.cells.size = size) (h7 : 0 < size)
    (v : Value) (k : Nat) (xs : List Value) (hs : a.eval s = v) (hown : w.ownsRow base e size v k xs) (ad : Addr) (m c : Nat) (news : List Value) (hx : a.eval x = .slice (some ad) m c) (hn : news.length = m * size)
    (hc : ∀ (j : Nat) (u : Value), news[j]? = some u → w.cell? (ad.add j) = some u) (h1c : ∀ u ∈ news, u.oneCell' = true) (b1 : k + m ≤ maxLen) (b2 : (k + m) * bytes ≤ 140737488355328) (b3 : base ≤ w.heap.size)
    (hK : ∀ v' w', w'.ownsRow base e size v' (k + m) (xs ++ news) → w.grownBy w' v.ownBlock → (v'.ownBlock = v.ownBlock ∨ v'.ownBlock = some w.heap.size) → wpListIn F n P ops Q rest (a.put o.dst v') w') :
    wpListIn F n P ops Q (o :: rest) a w := by
  refine wpListIn_plain hg fun K hK' => ?_
  obtain ⟨v', w', hrun, r1, r2, _, r3⟩ := run_append_own_at (P := P) w base t o.type e i z size bytes h1 h2 h3 h4 h5 h6 h7 v k xs hown ad m c news hn hc h1c b1 b2 b3
  unfold Oper.wpIn
  refine ⟨?_, ?_⟩
  · simp [Oper.about, hop, resolve, Target.leads, Sem.run_pure]
  · rw [Oper.semAt_plain F _ _ (by rw [hop]; intro c hc'; cases hc')]
    simp [execOp, hop, resolve, invoke, builtin, hs, hx, hrun, Result.andThen]
    exact hK' _ _ (hK v' w' r1 r2 r3)

theorem wpList_append_at {P : Program} (w : World) {ops : Array Oper} {rest : List Oper} {o : Oper} {a : Act} {Q : Exit → Act → World → Prop}
    (hg : o.guard = none) (s x : Operand) (t : TypeId) (hop : o.op = Op.call { callee := Callee.builtin Builtin.append, args := #[s, x], argTypes := #[t, t] })
    (base : Nat) (e : TypeId) (i : TypeInfo) (z : Value) (size bytes : Nat) (h1 : P.underlying t = some (.slice e)) (h2 : P.info? e = some i) (h3 : i.zero = some z) (h4 : i.size = size) (h5 : i.bytes = bytes) (h6 : z.cells.size = size) (h7 : 0 < size)
    (v : Value) (k : Nat) (xs : List Value) (hs : a.eval s = v) (hown : w.ownsRow base e size v k xs) (ad : Addr) (m c : Nat) (news : List Value) (hx : a.eval x = .slice (some ad) m c) (hn : news.length = m * size)
    (hc : ∀ (j : Nat) (u : Value), news[j]? = some u → w.cell? (ad.add j) = some u) (h1c : ∀ u ∈ news, u.oneCell' = true) (b1 : k + m ≤ maxLen) (b2 : (k + m) * bytes ≤ 140737488355328) (b3 : base ≤ w.heap.size)
    (hK : ∀ v' w', w'.ownsRow base e size v' (k + m) (xs ++ news) → w.grownBy w' v.ownBlock → (v'.ownBlock = v.ownBlock ∨ v'.ownBlock = some w.heap.size) → wpList P ops Q rest (a.put o.dst v') w') :
    wpList P ops Q (o :: rest) a w := by
  refine wpList_plain hg fun K hK' => ?_
  obtain ⟨v', w', hrun, r1, r2, _, r3⟩ := run_append_own_at (P := P) w base t o.type e i z size bytes h1 h2 h3 h4 h5 h6 h7 v k xs hown ad m c news hn hc h1c b1 b2 b3
  unfold Oper.wp
  simp [execOp, hop, resolve, invoke, builtin, hs, hx, hrun, Result.andThen]
  exact hK' _ _ (hK v' w' r1 r2 r3)

theorem row_data {W : World} {base : Nat} {e : TypeId} {size : Nat} {v : Value} {k : Nat} {xs : List Value} (h : W.ownsRow base e size v k xs) : ∀ g, v.ownBlock = some g → base ≤ g ∧ ∃ o, W.heap[g]? = some o ∧ isData o = true := by
  intro g hg
  rcases h.2 with ⟨rfl, _⟩ | ⟨g', cap, cur, rfl, hb, hgb, _⟩
  · simp [Value.ownBlock] at hg
  · obtain rfl : g' = g := by simpa [Value.ownBlock] using hg
    exact ⟨hb, _, hgb, rfl⟩

theorem boxed_appendedK {W w1 : World} {O : Nat → Prop} {n₀ B : Nat} {t e : TypeId} {size : Nat} {v v' : Value} {k m : Nat} {xs ys : List Value} {tmp : Obj}
    (hv : Boxed W B t v) (hte : t ≠ e) (hrow : W.ownsRow n₀ e size v k xs) (hn₀ : n₀ ≤ W.heap.size) (hB : n₀ ≤ B) (hBO : ¬ O B) (hO : ∀ k, O k → k < W.heap.size) (hgO : ∀ g, v.ownBlock = some g → ¬ O g)
    (hown' : w1.ownsRow n₀ e size v' m ys) (hgrow : (W.alloc tmp).grownBy w1 v.ownBlock) (hat : v'.ownBlock = v.ownBlock ∨ v'.ownBlock = some (W.alloc tmp).heap.size) :
    Boxed w1 B t v ∧ Boxed (w1.setCell ⟨B, 0, none⟩ v') B t v' ∧ (w1.setCell ⟨B, 0, none⟩ v').ownsRow n₀ e size v' m ys ∧ Keeps n₀ O W (w1.setCell ⟨B, 0, none⟩ v') ∧ Below n₀ W (w1.setCell ⟨B, 0, none⟩ v') ∧ (∀ g, v'.ownBlock = some g → ¬ O g) := by
  obtain ⟨a1, a2, a3, _, a5⟩ := hv.appended hte hrow hn₀ hB hown' hgrow
  refine ⟨a1, a2, a3, ?_, a5, fun g hg => ?_⟩
  · refine ((Keeps.below hO hn₀ ((Below.refl _ W).alloc (Nat.le_refl _) tmp)).trans (Keeps.grown (fun k hk => by have := hO k hk; simp; omega) (by simp; omega) hgrow fun g hg => ?_)).trans (Keeps.setCell _ hBO hB _)
    obtain ⟨h1, h2⟩ := row_data (hrow.alloc tmp) g hg
    exact ⟨h1, hgO g hg, h2⟩
  · rcases hat with h | h
    · exact hgO g (by rw [← h]; exact hg)
    · rw [h] at hg
      intro ho
      have := hO g ho
      simp at hg
      omega

theorem ownsRow_moves {W W' : World} {B0 : Nat} {O : Nat → Prop} {e : TypeId} {size : Nat} {v : Value} {k base : Nat} {xs : List Value} (h : W.ownsRow base e size v k xs) (hm : Moves B0 O W W') (hgO : ∀ g, v.ownBlock = some g → ¬ O g) : W'.ownsRow base e size v k xs := by
  refine ⟨h.1, ?_⟩
  rcases h.2 with h2 | ⟨g, cap, cur, rfl, hb, hgb, r⟩
  · exact .inl h2
  · exact .inr ⟨g, cap, cur, rfl, hb, hm.data _ _ hgb rfl (hgO g rfl), r⟩

theorem ownsRow_below {W W' : World} {e : TypeId} {size : Nat} {v : Value} {k base : Nat} {xs : List Value} (h : W.ownsRow base e size v k xs) (hb : Below W.heap.size W W') : W'.ownsRow base e size v k xs :=
  ownsRow_moves (B0 := 0) (O := fun _ => False) h ((Apart.below hb).moves (by omega)) (fun _ _ => id)

theorem Keeps.putData {B0 : Nat} {O : Nat → Prop} {A : World} {r : Nat} {o o' : Obj} (h : A.heap[r]? = some o) (hd : isData o = true) (hO : ¬ O r) (hB : B0 ≤ r) : Keeps B0 O A (A.putObj r o') :=
  ⟨by simp, fun k hk => World.putObj_heap_other (by omega), fun k hk => World.putObj_heap_other (fun e => hO (e ▸ hk)), fun k o2 hk hd2 => by
    by_cases e : k = r
    · subst e; rw [h] at hk; cases hk; rw [hd] at hd2; cases hd2
    · rw [World.putObj_heap_other e]; exact hk⟩
theorem below_putObj {B : Nat} {w A : World} {r : Nat} {o : Obj} (h : Below B w A) (hr : B ≤ r) : Below B w (A.putObj r o) :=
  h.trans ⟨rfl, rfl, rfl, by simp, fun k hk => World.putObj_heap_other (by omega)⟩
theorem Moves.dataObj {B0 : Nat} {O : Nat → Prop} {A C : World} (hm : Moves B0 O A C) {k : Nat} {es : Array MapEntry} {c : Nat} (h : A.heap[k]? = some (.map es c)) (hk : ¬ O k) : C.heap[k]? = some (.map es c) :=
  hm.data _ _ h rfl hk
end Go.Vir


namespace Go.Vir
open Go Go.RowKit

section
variable {W w1 : World} {n₀ B j : Nat} {cs : Array Value} {t e : TypeId} {size : Nat} {v v' u : Value} {k m : Nat} {xs ys : List Value} {tmp : Obj}

theorem blk_not_row (h : W.heap[B]? = some (.cells cs t (0, 0))) (hte : t ≠ e) (hr : W.ownsRow n₀ e size v k xs) : some B ≠ v.ownBlock := by
  rcases hr.2 with ⟨rfl, _⟩ | ⟨g, cap, cur, rfl, _, hgb, _⟩
  · simp [Value.ownBlock]
  · intro e'
    obtain rfl : B = g := by simpa [Value.ownBlock] using e'
    rw [h] at hgb
    simp at hgb
    exact hte hgb.2
theorem grownBy_setCell2 (W : World) (b j : Nat) (v : Value) : W.grownBy (W.setCell ⟨b, j, none⟩ v) (some b) :=
  ⟨rfl, rfl, rfl, by simp [World.setCell], fun k hk hne => Below.heap_setCell _ _ _ _ (fun e => hne (by rw [e]))⟩
theorem setCell_blk (h : W.heap[B]? = some (.cells cs t (0, 0))) (j : Nat) (u : Value) : (W.setCell ⟨B, j, none⟩ u).heap[B]? = some (.cells (cs.setIfInBounds j u) t (0, 0)) := by
  simp [World.setCell, Array.getElem?_modify, h]

end
end Go.Vir


namespace Go.Vir
open Go Go.RowKit Go.Proofs
attribute [local go_sem] Oper.semAt_some
theorem run_store_float (P : Program) (w : World) (a : Addr) (m : Mode) (k : FloatKind) (b : Nat) : (store a (.float k b) m).run P w = stored P w a (.float k b) m := run_store P w a _ m rfl
theorem run_store_complex (P : Program) (w : World) (a : Addr) (m : Mode) (k : FloatKind) (x y : Nat) : (store a (.complex k x y) m).run P w = stored P w a (.complex k x y) m := run_store P w a _ m rfl
attribute [local go_sem] run_store_float run_store_complex

def fltN (n : Nat) : Nat := FloatKind.f64.nearest (n : Int)
def rowC (c : Nat) : Array Value := match rowU c with
  | none => #[.int .u8 0, .int .i64 0, .complex .f64 0 0]
  | some (n, lo, hi) => #[.int .u8 (markU n : Int), .int .i64 (n : Int), .complex .f64 (fltN lo) (fltN hi)]

def geF (b m : Nat) : Bool := FloatKind.f64.format.order (floatOfInt FloatKind.f64 (b : Int)) (fltN m) == some Ordering.gt || FloatKind.f64.format.order (floatOfInt FloatKind.f64 (b : Int)) (fltN m) == some Ordering.eq
def leF (b m : Nat) : Bool := FloatKind.f64.format.order (floatOfInt FloatKind.f64 (b : Int)) (fltN m) == some Ordering.lt || FloatKind.f64.format.order (floatOfInt FloatKind.f64 (b : Int)) (fltN m) == some Ordering.eq
theorem flt_all : ((List.range 256).all fun b => [128, 191, 160, 159, 144, 143].all fun m => geF b m == decide (m ≤ b) && leF b m == decide (b ≤ m)) = true := by kernel_rfl
theorem flt_cmp {b m : Nat} (hb : b < 256) (hm : m ∈ [128, 191, 160, 159, 144, 143]) : geF b m = decide (m ≤ b) ∧ leF b m = decide (b ≤ m) := by
  have h := List.all_eq_true.1 (List.all_eq_true.1 flt_all b (List.mem_range.2 hb)) m hm
  simpa using h
theorem row_ends {c n lo hi : Nat} (h : rowU c = some (n, lo, hi)) : lo ∈ [128, 191, 160, 159, 144, 143] ∧ hi ∈ [128, 191, 160, 159, 144, 143] := by
  unfold rowU at h
  repeat' split at h
  all_goals first | (cases h; done) | (simp only [Option.some.injEq, Prod.mk.injEq] at h; obtain ⟨rfl, rfl, rfl⟩ := h; decide)

set_option maxRecDepth 100000 in
set_option maxHeartbeats 4000000 in
theorem row_isSecond (c n lo hi b : Nat) (w : World) (h : rowU c = some (n, lo, hi)) (hb : b < 256) :
    Calls Tryz.prog 147 #[.agg (rowC c), .int .u8 (b : Int)] w fun e w' => e = .returned (.bool (decide (lo ≤ b) && decide (b ≤ hi))) ∧ Below w.heap.size w w' := by
  obtain ⟨h1, h2⟩ := row_ends h
  rw [← (flt_cmp hb h1).1, ← (flt_cmp hb h2).2]
  unfold rowC geF leF
  rw [h]
  simp only
  rcases h3 : (FloatKind.f64.format.order (floatOfInt FloatKind.f64 (b : Int)) (fltN lo) == some Ordering.gt || FloatKind.f64.format.order (floatOfInt FloatKind.f64 (b : Int)) (fltN lo) == some Ordering.eq) with _ | _
  · go_enter Tryz.func147, Tryz.ntmps147
    go_wp2_with fail
    go_ret
    exact ⟨by simp, by go_grown⟩
  · go_enter Tryz.func147, Tryz.ntmps147
    go_wp2_with fail
    go_ret
    exact ⟨by simp, by go_grown⟩

theorem row_lit {c n lo hi : Nat} (h : rowU c = some (n, lo, hi)) : (n, lo, hi) ∈ [(0, 128, 191), (1, 128, 191), (2, 160, 191), (2, 128, 159), (2, 128, 191), (3, 144, 191), (3, 128, 191), (3, 128, 143)] := by
  unfold rowU at h
  repeat' split at h
  all_goals first | (cases h; done) | (simp only [Option.some.injEq, Prod.mk.injEq] at h; obtain ⟨rfl, rfl, rfl⟩ := h; decide)
set_option maxRecDepth 100000 in
set_option maxHeartbeats 4000000 in
theorem row_isRow (c : Nat) (w : World) :
    Calls Tryz.prog 146 #[.agg (rowC c)] w fun e w' => e = .returned (.bool (rowU c).isSome) ∧ Below w.heap.size w w' := by
  unfold rowC
  rcases h : rowU c with _ | ⟨n, lo, hi⟩
  · have q : ∀ w : World, (binOp .neq 206 (.agg #[.int .u8 0, .int .i64 0, .complex .f64 0 0]) (.agg #[.int .u8 0, .int .i64 0, .complex .f64 0 0])).run Tryz.prog w = .ok (.bool false) w := fun w => by kernel_rfl
    simp only
    go_enter Tryz.func146, Tryz.ntmps146
    go_wp2_with fail
    go_ret
    exact ⟨rfl, by go_grown⟩
  · have q : ∀ (w : World), (binOp .neq 206 (.agg #[.int .u8 (markU n : Int), .int .i64 (n : Int), .complex .f64 (fltN lo) (fltN hi)]) (.agg #[.int .u8 0, .int .i64 0, .complex .f64 0 0])).run Tryz.prog w = .ok (.bool true) w := fun w => by
      have hm := row_lit h
      clear h
      simp only [List.mem_cons, Prod.mk.injEq, List.not_mem_nil, or_false] at hm
      rcases hm with ⟨rfl, rfl, rfl⟩ | ⟨rfl, rfl, rfl⟩ | ⟨rfl, rfl, rfl⟩ | ⟨rfl, rfl, rfl⟩ | ⟨rfl, rfl, rfl⟩ | ⟨rfl, rfl, rfl⟩ | ⟨rfl, rfl, rfl⟩ | ⟨rfl, rfl, rfl⟩
      all_goals (show _ = _; kernel_rfl)
    clear h
    simp only
    go_enter Tryz.func146, Tryz.ntmps146
    go_wp2_with fail
    go_ret
    exact ⟨rfl, by go_grown⟩

theorem findNow_noneI {kd : IntKind} (k : Int) : ∀ (l : List MapEntry) (i : Nat), (∀ e ∈ l, ∃ x, e.key = .int kd x ∧ x ≠ k) → Instr.findNow (.int kd) (.int kd k) l i = some none
  | [], _, _ => rfl
  | e :: l, i, h => by
    obtain ⟨x, h1, h2⟩ := h e (List.mem_cons_self ..)
    unfold Instr.findNow
    rw [h1]
    have hs : Instr.sameNow (.int kd) (.int kd k) (.int kd x) = some false := by
      show (if kd = kd then some (k == x) else none) = _
      rw [if_pos rfl]
      congr 1
      rw [beq_eq_false_iff_ne]
      exact fun e => h2 e.symm
    rw [hs]
    exact findNow_noneI k l (i + 1) fun e he => h e (List.mem_cons_of_mem _ he)
def specE : Array MapEntry := #[{ key := .int .u8 224, val := .agg (rowC 224), born := 0 }, { key := .int .u8 237, val := .agg (rowC 237), born := 1 }, { key := .int .u8 240, val := .agg (rowC 240), born := 2 }, { key := .int .u8 244, val := .agg (rowC 244), born := 3 }]
theorem rowC_224 : Value.agg #[.int .u8 224, .int .i64 2, .complex .f64 4639833516098453504 4640924231633207296] = .agg (rowC 224) := by kernel_rfl
theorem rowC_237 : Value.agg #[.int .u8 224, .int .i64 2, .complex .f64 4638707616191610880 4639798331726364672] = .agg (rowC 237) := by kernel_rfl
theorem rowC_240 : Value.agg #[.int .u8 240, .int .i64 3, .complex .f64 4639270566145032192 4640924231633207296] = .agg (rowC 240) := by kernel_rfl
theorem rowC_244 : Value.agg #[.int .u8 240, .int .i64 3, .complex .f64 4638707616191610880 4639235381772943360] = .agg (rowC 244) := by kernel_rfl
theorem flt_ends : fltN 128 = 4638707616191610880 ∧ fltN 191 = 4640924231633207296 := ⟨by kernel_rfl, by kernel_rfl⟩

theorem spec_map (w : World) : ∃ W1 W2 W3 W4 : World, (Instr.mapUpdate 248 (.map (some (w.heap.size + 1))) (.int .u8 224) (.agg #[.int .u8 224, .int .i64 2, .complex .f64 4639833516098453504 4640924231633207296])).run Tryz.prog ((w.alloc (.cells #[.int .u8 0, .int .i64 0, .complex .f64 0 0] 206)).alloc (.map #[] 0)) = .ok () W1 ∧ (Instr.mapUpdate 248 (.map (some (w.heap.size + 1))) (.int .u8 237) (.agg #[.int .u8 224, .int .i64 2, .complex .f64 4638707616191610880 4639798331726364672])).run Tryz.prog W1 = .ok () W2 ∧ (Instr.mapUpdate 248 (.map (some (w.heap.size + 1))) (.int .u8 240) (.agg #[.int .u8 240, .int .i64 3, .complex .f64 4639270566145032192 4640924231633207296])).run Tryz.prog W2 = .ok () W3 ∧ (Instr.mapUpdate 248 (.map (some (w.heap.size + 1))) (.int .u8 244) (.agg #[.int .u8 240, .int .i64 3, .complex .f64 4638707616191610880 4639235381772943360])).run Tryz.prog W3 = .ok () W4 ∧
    W4.heap[w.heap.size + 1]? = some (.map specE 4) ∧ W4.heap[w.heap.size]? = some (.cells #[.int .u8 0, .int .i64 0, .complex .f64 0 0] 206 (0, 0)) ∧ Below w.heap.size w W4 ∧ W4.heap.size = w.heap.size + 2 := by
  have h0 : ((w.alloc (.cells #[.int .u8 0, .int .i64 0, .complex .f64 0 0] 206)).alloc (.map #[] 0)).heap[w.heap.size + 1]? = some (.map #[] 0) := heap_new (by simp)
  have hs0 : w.heap.size + 1 < ((w.alloc (.cells #[.int .u8 0, .int .i64 0, .complex .f64 0 0] 206)).alloc (.map #[] 0)).heap.size := by simp
  have hz : ((w.alloc (.cells #[.int .u8 0, .int .i64 0, .complex .f64 0 0] 206)).alloc (.map #[] 0)).heap[w.heap.size]? = some (.cells #[.int .u8 0, .int .i64 0, .complex .f64 0 0] 206 (0, 0)) := (heap_old (by simp)).trans (heap_new rfl)
  have hb : Below w.heap.size w ((w.alloc (.cells #[.int .u8 0, .int .i64 0, .complex .f64 0 0] 206)).alloc (.map #[] 0)) := by go_grown
  have hsz : ((w.alloc (.cells #[.int .u8 0, .int .i64 0, .complex .f64 0 0] 206)).alloc (.map #[] 0)).heap.size = w.heap.size + 2 := by simp
  generalize ((w.alloc (.cells #[.int .u8 0, .int .i64 0, .complex .f64 0 0] 206)).alloc (.map #[] 0)) = W0 at *
  have s1 := World.putObj_heap_same (o := .map #[{ key := .int .u8 224, val := .agg (rowC 224), born := 0 }] 1) hs0
  refine ⟨_, _, _, _, run_insert_new Tryz.underlying248 Tryz.underlying5 rfl h0 rfl, run_insert_new Tryz.underlying248 Tryz.underlying5 rfl (World.putObj_heap_same hs0) rfl,
    run_insert_new Tryz.underlying248 Tryz.underlying5 rfl (World.putObj_heap_same (by simpa using hs0)) rfl, run_insert_new Tryz.underlying248 Tryz.underlying5 rfl (World.putObj_heap_same (by simpa using hs0)) rfl, ?_, ?_, ?_, ?_⟩
  · rw [World.putObj_heap_same (by simpa using hs0)]
    unfold specE
    rw [← rowC_224, ← rowC_237, ← rowC_240, ← rowC_244]
    rfl
  · rw [World.putObj_heap_other (by omega), World.putObj_heap_other (by omega), World.putObj_heap_other (by omega), World.putObj_heap_other (by omega)]; exact hz
  · exact below_putObj (below_putObj (below_putObj (below_putObj hb (by omega)) (by omega)) (by omega)) (by omega)
  · simp [hsz]
theorem spec_look (c : Nat) (w : World) {m : Nat} (hm : w.heap[m]? = some (.map specE 4)) : (Instr.lookup 248 (.map (some m)) (.int .u8 (c : Int)) true).run Tryz.prog w = .ok (.tuple #[if c = 224 ∨ c = 237 ∨ c = 240 ∨ c = 244 then .agg (rowC c) else .agg #[.int .u8 0, .int .i64 0, .complex .f64 0 0], .bool (decide (c = 224 ∨ c = 237 ∨ c = 240 ∨ c = 244))]) w := by
  by_cases h : c = 224 ∨ c = 237 ∨ c = 240 ∨ c = 244
  · rw [if_pos h, decide_eq_true h]
    rcases h with rfl | rfl | rfl | rfl
    · exact run_lookup_at true Tryz.underlying248 Tryz.underlying5 rfl hm (i := 0) rfl
    · exact run_lookup_at true Tryz.underlying248 Tryz.underlying5 rfl hm (i := 1) rfl
    · exact run_lookup_at true Tryz.underlying248 Tryz.underlying5 rfl hm (i := 2) rfl
    · exact run_lookup_at true Tryz.underlying248 Tryz.underlying5 rfl hm (i := 3) rfl
  · rw [if_neg h, decide_eq_false h]
    refine run_lookup_none true Tryz.underlying248 Tryz.underlying5 rfl hm (z := .agg #[.int .u8 0, .int .i64 0, .complex .f64 0 0]) (by kernel_rfl) (findNow_noneI _ _ _ ?_)
    intro e he
    simp only [specE, List.mem_cons, List.not_mem_nil, or_false] at he
    rcases he with rfl | rfl | rfl | rfl
    all_goals exact ⟨_, rfl, by omega⟩

theorem results_cell3 {f : Func} {ts : Array Value} {W : World} {a : Nat} {u v z : Value} {s : Tmp} (hf : f.results = #[.cell s 206]) (hs : ts[s]? = some (.pointer (some ⟨a, 0, none⟩))) (h0 : W.cell? ⟨a, 0, none⟩ = some u) (h1 : W.cell? ⟨a, 1, none⟩ = some v) (h2 : W.cell? ⟨a, 2, none⟩ = some z) :
    (results f ts).run Tryz.prog W = .ok (.agg #[u, v, z]) W := by
  simp [results, hf, hs, go_sem, h0, h1, h2]
theorem row_stored {w V : World} {b : Nat} {u0 v0 z0 : Value} (u v : Value) (x y : Nat) (h : V.heap[b]? = some (.cells #[u0, v0, z0] 206 (0, 0))) (hb : Below w.heap.size w V) (hw : w.heap.size ≤ b) :
    (((V.setCell ⟨b, 0, none⟩ u).setCell ⟨b, 1, none⟩ v).setCell ⟨b, 2, none⟩ (.complex .f64 x y)).cell? ⟨b, 0, none⟩ = some u ∧ (((V.setCell ⟨b, 0, none⟩ u).setCell ⟨b, 1, none⟩ v).setCell ⟨b, 2, none⟩ (.complex .f64 x y)).cell? ⟨b, 1, none⟩ = some v ∧
    (((V.setCell ⟨b, 0, none⟩ u).setCell ⟨b, 1, none⟩ v).setCell ⟨b, 2, none⟩ (.complex .f64 x y)).cell? ⟨b, 2, none⟩ = some (.complex .f64 x y) ∧ Below w.heap.size w (((V.setCell ⟨b, 0, none⟩ u).setCell ⟨b, 1, none⟩ v).setCell ⟨b, 2, none⟩ (.complex .f64 x y)) := by
  have hh : (((V.setCell ⟨b, 0, none⟩ u).setCell ⟨b, 1, none⟩ v).setCell ⟨b, 2, none⟩ (.complex .f64 x y)).heap[b]? = some (.cells #[u, v, .complex .f64 x y] 206 (0, 0)) := by
    simp [World.setCell, Array.getElem?_modify, h]
  exact ⟨cell_blk hh 0, cell_blk hh 1, cell_blk hh 2, ((hb.setCell (p := ⟨b, 0, none⟩) hw u).setCell (p := ⟨b, 1, none⟩) hw v).setCell (p := ⟨b, 2, none⟩) hw _⟩

set_option maxRecDepth 100000 in
set_option maxHeartbeats 4000000 in
theorem scalar_rowOf (c : Nat) (w : World) (hc : c < 256) :
    Calls Tryz.prog 145 #[.int .u8 (c : Int)] w fun e w' => e = .returned (.agg (rowC c)) ∧ Below w.heap.size w w' := by
  have hmm := @run_makeMap Tryz.prog
  obtain ⟨W1, W2, W3, W4, i1, i2, i3, i4, hm, hz, hb, hs⟩ := spec_map w
  have hl := spec_look c W4 hm
  have Hm := Lib.hid hm
  have Hz := Lib.hid hz
  have Hb := Lib.hid hb
  have Hs := Lib.hid hs
  clear hm hz hb hs
  by_cases h : c = 224 ∨ c = 237 ∨ c = 240 ∨ c = 244
  · rw [if_pos h, decide_eq_true h] at hl
    obtain ⟨m, n, x, y, hr⟩ : ∃ m n x y, rowC c = #[.int .u8 m, .int .i64 n, .complex .f64 x y] := by
      rcases h with rfl | rfl | rfl | rfl
      all_goals exact ⟨_, _, _, _, rfl⟩
    rw [hr] at hl
    rw [hr]
    clear hr h
    have hz := (heap_old (w := W4) (o := (.cells #[.int .u8 m, .int .i64 n, .complex .f64 x y] 206)) (show w.heap.size < W4.heap.size by have := Hs.out; omega)).trans Hz.out
    have e0 := cell_blk hz 0
    have e1 := cell_blk hz 1
    have e2 := cell_blk hz 2
    have f0 := frozen_blk hz 0
    have f1 := frozen_blk hz 1
    have f2 := frozen_blk hz 2
    have Hb2 := Lib.hid (show Below w.heap.size w (W4.alloc (.cells #[.int .u8 m, .int .i64 n, .complex .f64 x y] 206)) from Hb.out.alloc Hb.out.size _)
    have Hz2 := Lib.hid hz
    clear hz
    go_enter Tryz.func145, Tryz.ntmps145
    go_wp2_with fail
    obtain ⟨g0, g1, g2, gb⟩ := row_stored (.int .u8 m) (.int .i64 n) x y Hz2.out Hb2.out (Nat.le_refl _)
    exact bodyPost_ret (v := .agg #[(.int .u8 m), (.int .i64 n), .complex .f64 x y]) (results_cell3 rfl rfl g0 g1 g2) rfl ⟨rfl, gb⟩
  · rw [if_neg h, decide_eq_false h] at hl
    have hz := (heap_old (w := W4) (o := (.cells #[.int .u8 0, .int .i64 0, .complex .f64 0 0] 206)) (show w.heap.size < W4.heap.size by have := Hs.out; omega)).trans Hz.out
    have e0 := cell_blk hz 0
    have e1 := cell_blk hz 1
    have e2 := cell_blk hz 2
    have f0 := frozen_blk hz 0
    have f1 := frozen_blk hz 1
    have f2 := frozen_blk hz 2
    have Hb2 := Lib.hid (show Below w.heap.size w (W4.alloc (.cells #[.int .u8 0, .int .i64 0, .complex .f64 0 0] 206)) from Hb.out.alloc Hb.out.size _)
    have Hz2 := Lib.hid hz
    clear hz
    have hcase : (c < 128) ∨ (128 ≤ c ∧ c < 194) ∨ (194 ≤ c ∧ c < 224) ∨ (225 ≤ c ∧ c < 240) ∨ (241 ≤ c ∧ c < 244) ∨ (245 ≤ c) := by omega
    rcases hcase with k | k | k | k | k | k
    · have hrow : rowU c = some (0, 128, 191) := by
        unfold rowU
        repeat' split
        all_goals first | rfl | omega
      have hC : rowC c = #[.int .u8 0, .int .i64 0, .complex .f64 4638707616191610880 4640924231633207296] := by
        unfold rowC; rw [hrow]; simp only [flt_ends.1, flt_ends.2]; rfl
      rw [hC]
      clear hC hrow h
      have k0 : ((c : Int) < 128) := by omega
      have k1 : ¬ ((c : Int) ≥ 194) := by omega
      have k2 : ((c : Int) < 224) := by omega
      have k3 : ¬ ((c : Int) ≥ 225) := by omega
      have k4 : ((c : Int) < 240) := by omega
      have k5 : ¬ ((c : Int) > 240) := by omega
      have k6 : ((c : Int) < 244) := by omega
      clear k
      go_enter Tryz.func145, Tryz.ntmps145
      go_wp2_with fail
      obtain ⟨g0, g1, g2, gb⟩ := row_stored (.int .u8 0) (.int .i64 0) 4638707616191610880 4640924231633207296 Hz2.out Hb2.out (Nat.le_refl _)
      exact bodyPost_ret (v := .agg #[(.int .u8 0), (.int .i64 0), .complex .f64 4638707616191610880 4640924231633207296]) (results_cell3 rfl rfl g0 g1 g2) rfl ⟨rfl, gb⟩
    · have hrow : rowU c = none := by
        unfold rowU
        repeat' split
        all_goals first | rfl | omega
      have hC : rowC c = #[.int .u8 0, .int .i64 0, .complex .f64 0 0] := by
        unfold rowC; rw [hrow]
      rw [hC]
      clear hC hrow h
      have k0 : ¬ ((c : Int) < 128) := by omega
      have k1 : ¬ ((c : Int) ≥ 194) := by omega
      have k2 : ((c : Int) < 224) := by omega
      have k3 : ¬ ((c : Int) ≥ 225) := by omega
      have k4 : ((c : Int) < 240) := by omega
      have k5 : ¬ ((c : Int) > 240) := by omega
      have k6 : ((c : Int) < 244) := by omega
      clear k
      go_enter Tryz.func145, Tryz.ntmps145
      go_wp2_with fail
      obtain ⟨g0, g1, g2, gb⟩ := row_stored (.int .u8 0) (.int .i64 0) 0 0 Hz2.out Hb2.out (Nat.le_refl _)
      exact bodyPost_ret (v := .agg #[(.int .u8 0), (.int .i64 0), .complex .f64 0 0]) (results_cell3 rfl rfl g0 g1 g2) rfl ⟨rfl, gb⟩
    · have hrow : rowU c = some (1, 128, 191) := by
        unfold rowU
        repeat' split
        all_goals first | rfl | omega
      have hC : rowC c = #[.int .u8 192, .int .i64 1, .complex .f64 4638707616191610880 4640924231633207296] := by
        unfold rowC; rw [hrow]; simp only [flt_ends.1, flt_ends.2]; rfl
      rw [hC]
      clear hC hrow h
      have k0 : ¬ ((c : Int) < 128) := by omega
      have k1 : ((c : Int) ≥ 194) := by omega
      have k2 : ((c : Int) < 224) := by omega
      have k3 : ¬ ((c : Int) ≥ 225) := by omega
      have k4 : ((c : Int) < 240) := by omega
      have k5 : ¬ ((c : Int) > 240) := by omega
      have k6 : ((c : Int) < 244) := by omega
      clear k
      go_enter Tryz.func145, Tryz.ntmps145
      go_wp2_with fail
      obtain ⟨g0, g1, g2, gb⟩ := row_stored (.int .u8 192) (.int .i64 1) 4638707616191610880 4640924231633207296 Hz2.out Hb2.out (Nat.le_refl _)
      exact bodyPost_ret (v := .agg #[(.int .u8 192), (.int .i64 1), .complex .f64 4638707616191610880 4640924231633207296]) (results_cell3 rfl rfl g0 g1 g2) rfl ⟨rfl, gb⟩
    · have hrow : rowU c = some (2, 128, 191) := by
        unfold rowU
        repeat' split
        all_goals first | rfl | omega
      have hC : rowC c = #[.int .u8 224, .int .i64 2, .complex .f64 4638707616191610880 4640924231633207296] := by
        unfold rowC; rw [hrow]; simp only [flt_ends.1, flt_ends.2]; rfl
      rw [hC]
      clear hC hrow h
      have k0 : ¬ ((c : Int) < 128) := by omega
      have k1 : ((c : Int) ≥ 194) := by omega
      have k2 : ¬ ((c : Int) < 224) := by omega
      have k3 : ((c : Int) ≥ 225) := by omega
      have k4 : ((c : Int) < 240) := by omega
      have k5 : ¬ ((c : Int) > 240) := by omega
      have k6 : ((c : Int) < 244) := by omega
      clear k
      go_enter Tryz.func145, Tryz.ntmps145
      go_wp2_with fail
      obtain ⟨g0, g1, g2, gb⟩ := row_stored (.int .u8 224) (.int .i64 2) 4638707616191610880 4640924231633207296 Hz2.out Hb2.out (Nat.le_refl _)
      exact bodyPost_ret (v := .agg #[(.int .u8 224), (.int .i64 2), .complex .f64 4638707616191610880 4640924231633207296]) (results_cell3 rfl rfl g0 g1 g2) rfl ⟨rfl, gb⟩
    · have hrow : rowU c = some (3, 128, 191) := by
        unfold rowU
        repeat' split
        all_goals first | rfl | omega
      have hC : rowC c = #[.int .u8 240, .int .i64 3, .complex .f64 4638707616191610880 4640924231633207296] := by
        unfold rowC; rw [hrow]; simp only [flt_ends.1, flt_ends.2]; rfl
      rw [hC]
      clear hC hrow h
      have k0 : ¬ ((c : Int) < 128) := by omega
      have k1 : ((c : Int) ≥ 194) := by omega
      have k2 : ¬ ((c : Int) < 224) := by omega
      have k3 : ((c : Int) ≥ 225) := by omega
      have k4 : ¬ ((c : Int) < 240) := by omega
      have k5 : ((c : Int) > 240) := by omega
      have k6 : ((c : Int) < 244) := by omega
      clear k
      go_enter Tryz.func145, Tryz.ntmps145
      go_wp2_with fail
      obtain ⟨g0, g1, g2, gb⟩ := row_stored (.int .u8 240) (.int .i64 3) 4638707616191610880 4640924231633207296 Hz2.out Hb2.out (Nat.le_refl _)
      exact bodyPost_ret (v := .agg #[(.int .u8 240), (.int .i64 3), .complex .f64 4638707616191610880 4640924231633207296]) (results_cell3 rfl rfl g0 g1 g2) rfl ⟨rfl, gb⟩
    · have hrow : rowU c = none := by
        unfold rowU
        repeat' split
        all_goals first | rfl | omega
      have hC : rowC c = #[.int .u8 0, .int .i64 0, .complex .f64 0 0] := by
        unfold rowC; rw [hrow]
      rw [hC]
      clear hC hrow h
      have k0 : ¬ ((c : Int) < 128) := by omega
      have k1 : ((c : Int) ≥ 194) := by omega
      have k2 : ¬ ((c : Int) < 224) := by omega
      have k3 : ((c : Int) ≥ 225) := by omega
      have k4 : ¬ ((c : Int) < 240) := by omega
      have k5 : ((c : Int) > 240) := by omega
      have k6 : ¬ ((c : Int) < 244) := by omega
      clear k
      go_enter Tryz.func145, Tryz.ntmps145
      go_wp2_with fail
      obtain ⟨g0, g1, g2, gb⟩ := row_stored (.int .u8 0) (.int .i64 0) 0 0 Hz2.out Hb2.out (Nat.le_refl _)
      exact bodyPost_ret (v := .agg #[(.int .u8 0), (.int .i64 0), .complex .f64 0 0]) (results_cell3 rfl rfl g0 g1 g2) rfl ⟨rfl, gb⟩
end Go.Vir


namespace Go.Vir
open Go Go.RowKit Go.Proofs Go.Shelf
attribute [local go_sem] Oper.semAt_some

theorem takeWhile_get {α : Type} (p : α → Bool) : ∀ (l : List α) (i : Nat), i < (l.takeWhile p).length → ∃ h : i < l.length, p l[i] = true
  | [], i, h => absurd h (by simp)
  | x :: xs, i, h => by
    by_cases hx : p x = true
    · cases i with
      | zero => exact ⟨by simp, by simpa using hx⟩
      | succ i =>
        simp only [List.takeWhile_cons, hx, if_true, List.length_cons, Nat.add_lt_add_iff_right] at h
        obtain ⟨h1, h2⟩ := takeWhile_get p xs i h
        exact ⟨by simpa using h1, by simpa using h2⟩
    · simp [hx] at h
theorem takeWhile_stop {α : Type} (p : α → Bool) : ∀ (l : List α) (h : (l.takeWhile p).length < l.length), p l[(l.takeWhile p).length] = false
  | [], h => absurd h (by simp)
  | x :: xs, h => by
    by_cases hx : p x = true
    · simp only [List.takeWhile_cons, hx, if_true, List.length_cons, Nat.add_lt_add_iff_right] at h
      simp only [List.takeWhile_cons, hx, if_true, List.length_cons, List.getElem_cons_succ]
      exact takeWhile_stop p xs h
    · simp [hx]
end Go.Vir


namespace Go.Vir
open Go Go.RowKit Go.Proofs Go.Shelf
attribute [local go_sem] Oper.semAt_some

theorem int_info : (Tryz.prog.info? 3).map (fun i => (i.zero, i.size, i.bytes)) = some (some (.int .i64 0), 1, 8) := by kernel_rfl

end Go.Vir


namespace Go.Vir
open Go Go.RowKit Go.Proofs Go.Shelf

def letterB (c : UInt8) : Bool := (97 ≤ c.toNat && c.toNat ≤ 122) || (65 ≤ c.toNat && c.toNat ≤ 90) || (48 ≤ c.toNat && c.toNat ≤ 57) || c.toNat == 95
def nameB (l : List UInt8) : Bool := l.all letterB && (!l.isEmpty && decide (l.length ≤ 40))

theorem letterB_iff (c : UInt8) : letterB c = true ↔ (97 ≤ (c.toNat : Int) ∧ (c.toNat : Int) ≤ 122) ∨ (65 ≤ (c.toNat : Int) ∧ (c.toNat : Int) ≤ 90) ∨ (48 ≤ (c.toNat : Int) ∧ (c.toNat : Int) ≤ 57) ∨ (c.toNat : Int) = 95 := by
  simp only [letterB, Bool.or_eq_true, Bool.and_eq_true, decide_eq_true_eq, beq_iff_eq]
  omega

theorem next_any {P : Program} (w : World) (s : ByteArray) (pos : Nat) (h : pos < s.size) : ∃ (c : Int) (width : Nat), 0 ≤ c ∧ c ≤ 2147483647 ∧
    (letterB (s[pos]'h) = true ↔ (97 ≤ c ∧ c ≤ 122) ∨ (65 ≤ c ∧ c ≤ 90) ∨ (48 ≤ c ∧ c ≤ 57) ∨ c = 95) ∧ (letterB (s[pos]'h) = true → width = 1) ∧
    ∀ ty, (Instr.next (.pointer (some ⟨w.heap.size, 0, none⟩)) true ty).run P (w.iter s pos) = .ok (.tuple #[.bool true, .int .i64 pos, .int .i32 c]) (w.iter s (pos + width)) := by
  refine ⟨((Utf8.decode s pos).1 : Nat), (Utf8.decode s pos).2, by omega, by have := decode_le s pos; omega, ?_, ?_, fun ty => run_next_any w s pos ty h⟩
  · rw [letterB_iff]
    rcases Nat.lt_or_ge (s[pos]'h).toNat 128 with h1 | h1
    · rw [decode_ascii s pos h h1]
    · have := (decode_high s pos h h1).1
      omega
  · intro hl
    rcases Nat.lt_or_ge (s[pos]'h).toNat 128 with h1 | h1
    · rw [decode_ascii s pos h h1]
    · rw [letterB_iff] at hl
      omega

theorem below_iter (w : World) (s : ByteArray) (p : Nat) : Below w.heap.size w (w.iter s p) := (Below.refl _ w).alloc (Nat.le_refl _) _

set_option maxHeartbeats 800000 in
theorem prop_isName (s : ByteArray) (w : World) (hs : s.size ≤ 1000000) :
    Calls Tryz.prog 96 #[.string s] w fun e w' => e = .returned (.bool (nameB s.data.toList)) ∧ Below w.heap.size w w' := by
  go_enter Tryz.func96, Tryz.ntmps96
  go_wp2
  go_loopw [] (fun wr => ∃ pos, pos ≤ s.size ∧ (s.data.toList.take pos).all letterB = true ∧ wr = w.iter s pos) (fun wr => s.size - wr.iterPos w.heap.size)
  case atStart => exact ⟨0, Nat.zero_le _, rfl, rfl⟩
  case round =>
    obtain ⟨pos, hp, hall, rfl⟩ := hrel
    rcases Nat.lt_or_ge pos s.size with hlt | hge
    · obtain ⟨c, width, hc0, hc1, hlet, hw1, hnx⟩ := next_any (P := Tryz.prog) w s pos hlt
      have htk : s.data.toList.take (pos + 1) = s.data.toList.take pos ++ [s[pos]] := by rw [List.take_succ_eq_append_getElem (by simpa using hlt)]; rfl
      by_cases hl : letterB (s[pos]'hlt) = true
      · have hw := hw1 hl
        subst hw
        have hall2 : (s.data.toList.take (pos + 1)).all letterB = true := by rw [htk, List.all_append, hall]; simp [hl]
        have hcs := hlet.1 hl
        have Hall := Lib.hid hall2
        clear htk hw1 hlet hall hall2 hl
        rcases hcs with ⟨h1, h2⟩ | ⟨h1, h2⟩ | ⟨h1, h2⟩ | rfl
        · have hne : (c != 95) = true := by rw [bne_iff_ne]; omega
          go_wp2
          exact ⟨⟨pos + 1, by omega, Hall.out, rfl⟩, by simp; omega⟩
        · have hne : (c != 95) = true := by rw [bne_iff_ne]; omega
          go_wp2
          exact ⟨⟨pos + 1, by omega, Hall.out, rfl⟩, by simp; omega⟩
        · have hne : (c != 95) = true := by rw [bne_iff_ne]; omega
          go_wp2
          exact ⟨⟨pos + 1, by omega, Hall.out, rfl⟩, by simp; omega⟩
        · go_wp2
          exact ⟨⟨pos + 1, by omega, Hall.out, rfl⟩, by simp; omega⟩
      · have hf : nameB s.data.toList = false := by
          have h1 : s.data.toList.all letterB = false := by
            rw [List.all_eq_false]
            exact ⟨s[pos], by
              have : s[pos] = s.data.toList[pos]'(by simpa using hlt) := rfl
              rw [this]; exact List.getElem_mem _, hl⟩
          simp [nameB, h1]
        have hcs : c < 48 ∨ (57 < c ∧ c < 65) ∨ (90 < c ∧ c < 95) ∨ (95 < c ∧ c < 97) ∨ 122 < c := by
          have h1 : ¬ ((97 ≤ c ∧ c ≤ 122) ∨ (65 ≤ c ∧ c ≤ 90) ∨ (48 ≤ c ∧ c ≤ 57) ∨ c = 95) := fun h => hl (hlet.2 h)
          omega
        have hne : (c != 95) = true := by rw [bne_iff_ne]; omega
        have Hf := Lib.hid hf
        clear htk hw1 hlet hall hf hl
        rcases hcs with h1 | ⟨h1, h2⟩ | ⟨h1, h2⟩ | ⟨h1, h2⟩ | h1
        · go_wp2
          go_ret
          exact ⟨ret_bool Hf.out.symm, below_iter _ _ _⟩
        · go_wp2
          go_ret
          exact ⟨ret_bool Hf.out.symm, below_iter _ _ _⟩
        · have d1 : decide (c ≤ 90) = false := by simp; omega
          have d2 : decide (c < 48) = false := by simp; omega
          have d3 : decide (57 < c) = true := by simp; omega
          have d4 : decide (97 ≤ c) = false := by simp; omega
          go_wp2
          go_ret
          exact ⟨ret_bool Hf.out.symm, below_iter _ _ _⟩
        · have d1 : decide (c ≤ 90) = false := by simp; omega
          have d2 : decide (c < 48) = false := by simp; omega
          have d3 : decide (57 < c) = true := by simp; omega
          have d4 : decide (97 ≤ c) = false := by simp; omega
          go_wp2
          go_ret
          exact ⟨ret_bool Hf.out.symm, below_iter _ _ _⟩
        · have d1 : decide (c ≤ 90) = false := by simp; omega
          have d2 : decide (c < 48) = false := by simp; omega
          have d3 : decide (57 < c) = true := by simp; omega
          have d4 : decide (c ≤ 122) = false := by simp; omega
          go_wp2
          go_ret
          exact ⟨ret_bool Hf.out.symm, below_iter _ _ _⟩
    · obtain rfl : pos = s.size := by omega
      have hall2 : s.data.toList.all letterB = true := by
        rw [List.take_of_length_le (by simp)] at hall; exact hall
      have hnx : ∀ ty, (Instr.next (.pointer (some ⟨w.heap.size, 0, none⟩)) true ty).run Tryz.prog (w.iter s s.size) = .ok (.tuple #[.bool false]) (w.iter s s.size) := fun ty => run_next_end w s s.size ty (by omega)
      have hnb : nameB s.data.toList = (!s.data.toList.isEmpty && decide (s.size ≤ 40)) := by
        unfold nameB
        rw [hall2, Bool.true_and]
        simp
      have Hnb := Lib.hid hnb
      clear hnb hall hall2
      rcases he : s.data.toList.isEmpty with _ | _
      · have he1 : s.toList.isEmpty = false := by rw [Lib.toList_data]; exact he
        have he2 : ¬ (s.toList = []) := by rw [Lib.toList_data]; simpa using he
        have Hn2 : Hid (nameB s.data.toList = decide (s.size ≤ 40)) := by rw [Hnb.out, he]; rfl
        clear he Hnb
        go_wp2
        all_goals go_ret
        all_goals refine ⟨ret_bool ?_, below_iter _ _ _⟩
        all_goals rw [Hn2.out]
        all_goals (rw [decide_eq_decide]; omega)
      · have he1 : s.toList.isEmpty = true := by rw [Lib.toList_data]; exact he
        have he2 : s.toList = [] := by rw [Lib.toList_data]; simpa using he
        have Hn2 : Hid (nameB s.data.toList = false) := by rw [Hnb.out, he]; rfl
        clear he Hnb
        go_wp2
        all_goals go_ret
        all_goals refine ⟨ret_bool ?_, below_iter _ _ _⟩
        all_goals rw [Hn2.out]
end Go.Vir

