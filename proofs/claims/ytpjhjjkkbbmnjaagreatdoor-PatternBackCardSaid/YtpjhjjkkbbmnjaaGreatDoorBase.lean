/- Small words for memory: slices that read as lists, kept below a block number. No program. -/
import Derived.WalkKit
import Derived.WalkSpells
import Derived.OneCell
import Derived.Laws.AppendOwn
import Derived.Deep.Draws
namespace Go.Vir
open Go Go.RowKit

/-- A slice of ints that reads as zs, in a block below B. -/
structure Ints (w : World) (B : Nat) (A : Option Addr) (n : Nat) (zs : List Int) : Prop where
  len : zs.length = n
  at_ : 0 < n → ∃ b o, A = some ⟨b, o, none⟩ ∧ b < B ∧ ∀ (j : Nat) (h : j < zs.length), w.cell? ⟨b, o + j, none⟩ = some (.int .i64 zs[j])

/-- A slice of strings that reads as ss. -/
structure Strs (w : World) (B : Nat) (A : Option Addr) (n : Nat) (ss : List (List UInt8)) : Prop where
  len : ss.length = n
  at_ : 0 < n → ∃ b o, A = some ⟨b, o, none⟩ ∧ b < B ∧ ∀ (j : Nat) (h : j < ss.length), w.cell? ⟨b, o + j, none⟩ = some (.string ⟨ss[j].toArray⟩)

/-- A slice of pairs of ints that reads as ps. -/
structure Prs (w : World) (B : Nat) (A : Option Addr) (n : Nat) (ps : List (Int × Int)) : Prop where
  len : ps.length = n
  at_ : 0 < n → ∃ b o, A = some ⟨b, o, none⟩ ∧ b < B ∧ ∀ (j : Nat) (h : j < ps.length), w.cell? ⟨b, o + j * 2, none⟩ = some (.int .i64 ps[j].1) ∧ w.cell? ⟨b, o + j * 2 + 1, none⟩ = some (.int .i64 ps[j].2)

section
variable {w w' : World} {B B' n : Nat} {A : Option Addr}

theorem cellOf {b o : Nat} (hb : Below B w w') (h : b < B) : w'.cell? ⟨b, o, none⟩ = w.cell? ⟨b, o, none⟩ := hb.cell (p := ⟨b, o, none⟩) h
theorem frozenOf {b o : Nat} (hb : Below B w w') (h : b < B) : w'.frozen? ⟨b, o, none⟩ = w.frozen? ⟨b, o, none⟩ := hb.frozen (p := ⟨b, o, none⟩) h

theorem Ints.below {zs : List Int} (h : Ints w B A n zs) (hb : Below B w w') : Ints w' B A n zs :=
  ⟨h.len, fun hn => let ⟨b, o, e, hlt, hc⟩ := h.at_ hn; ⟨b, o, e, hlt, fun j hj => (cellOf hb hlt).trans (hc j hj)⟩⟩
theorem Ints.more {zs : List Int} (h : Ints w B A n zs) (hB : B ≤ B') : Ints w B' A n zs :=
  ⟨h.len, fun hn => let ⟨b, o, e, hlt, hc⟩ := h.at_ hn; ⟨b, o, e, by omega, hc⟩⟩
theorem Ints.nil (w : World) (B : Nat) (A : Option Addr) : Ints w B A 0 [] := ⟨rfl, fun h => absurd h (by omega)⟩
theorem Strs.below {ss : List (List UInt8)} (h : Strs w B A n ss) (hb : Below B w w') : Strs w' B A n ss :=
  ⟨h.len, fun hn => let ⟨b, o, e, hlt, hc⟩ := h.at_ hn; ⟨b, o, e, hlt, fun j hj => (cellOf hb hlt).trans (hc j hj)⟩⟩
theorem Strs.more {ss : List (List UInt8)} (h : Strs w B A n ss) (hB : B ≤ B') : Strs w B' A n ss :=
  ⟨h.len, fun hn => let ⟨b, o, e, hlt, hc⟩ := h.at_ hn; ⟨b, o, e, by omega, hc⟩⟩
theorem Strs.nil (w : World) (B : Nat) (A : Option Addr) : Strs w B A 0 [] := ⟨rfl, fun h => absurd h (by omega)⟩
theorem Prs.below {ps : List (Int × Int)} (h : Prs w B A n ps) (hb : Below B w w') : Prs w' B A n ps :=
  ⟨h.len, fun hn => let ⟨b, o, e, hlt, hc⟩ := h.at_ hn; ⟨b, o, e, hlt, fun j hj => ⟨(cellOf hb hlt).trans (hc j hj).1, (cellOf hb hlt).trans (hc j hj).2⟩⟩⟩
theorem Prs.more {ps : List (Int × Int)} (h : Prs w B A n ps) (hB : B ≤ B') : Prs w B' A n ps :=
  ⟨h.len, fun hn => let ⟨b, o, e, hlt, hc⟩ := h.at_ hn; ⟨b, o, e, by omega, hc⟩⟩
theorem Prs.nil (w : World) (B : Nat) (A : Option Addr) : Prs w B A 0 [] := ⟨rfl, fun h => absurd h (by omega)⟩

theorem Ints.of_own {base e c : Nat} {zs : List Int} (h : w.ownsRow base e 1 (.slice A n c) n (zs.map (Value.int .i64))) : Ints w w.heap.size A n zs := by
  refine ⟨by simpa using h.1, fun hn => ?_⟩
  rcases h.2 with ⟨_, h0⟩ | ⟨g, cap, cur, hv, _, hgb, _, _, _, ht⟩
  · omega
  · injection hv with hA _ _
    subst hA
    refine ⟨g, 0, rfl, (Array.getElem?_eq_some_iff.1 hgb).1, fun j hj => ?_⟩
    simp only [World.cell?, hgb, Nat.zero_add]
    have h1 : (cur.toList.take (n * 1))[j]? = some (.int .i64 zs[j]) := by rw [ht]; simp [hj]
    rw [List.getElem?_take] at h1
    split at h1
    · simpa using h1
    · cases h1

theorem Strs.of_own {base e c : Nat} {zs : List (List UInt8)} (h : w.ownsRow base e 1 (.slice A n c) n (zs.map fun z => Value.string ⟨z.toArray⟩)) : Strs w w.heap.size A n zs := by
  refine ⟨by simpa using h.1, fun hn => ?_⟩
  rcases h.2 with ⟨_, h0⟩ | ⟨g, cap, cur, hv, _, hgb, _, _, _, ht⟩
  · omega
  · injection hv with hA _ _
    subst hA
    refine ⟨g, 0, rfl, (Array.getElem?_eq_some_iff.1 hgb).1, fun j hj => ?_⟩
    simp only [World.cell?, hgb, Nat.zero_add]
    have h1 : (cur.toList.take (n * 1))[j]? = some (.string ⟨zs[j].toArray⟩) := by rw [ht]; simp [hj]
    rw [List.getElem?_take] at h1
    split at h1
    · simpa using h1
    · cases h1

/-- All old cells and marks read as they did. -/
theorem bcell {W w1 : World} (hb : Below W.heap.size W w1) : (∀ b o, b < W.heap.size → w1.cell? ⟨b, o, none⟩ = W.cell? ⟨b, o, none⟩) ∧ (∀ b o, b < W.heap.size → w1.frozen? ⟨b, o, none⟩ = W.frozen? ⟨b, o, none⟩) :=
  ⟨fun b o h => hb.cell (p := ⟨b, o, none⟩) h, fun b o h => hb.frozen (p := ⟨b, o, none⟩) h⟩

theorem cell_blk {b : Nat} {cs : Array Value} {t : TypeId} {m : Nat × Nat} (h : w.heap[b]? = some (.cells cs t m)) (o : Nat) : w.cell? ⟨b, o, none⟩ = cs[o]? := by
  simp [World.cell?, h]
theorem frozen_blk {b : Nat} {cs : Array Value} {t : TypeId} (h : w.heap[b]? = some (.cells cs t (0, 0))) (o : Nat) : w.frozen? ⟨b, o, none⟩ = false := by
  simp [World.frozen?, h]
end

theorem below_drewN (B : Nat) (w : World) (n : Nat) : Below B w (w.drewN n) := ⟨rfl, rfl, rfl, Nat.le_refl _, fun _ _ => rfl⟩
theorem ret_bool {a b : Bool} (h : a = b) : Ending.returned (.bool a) = .returned (.bool b) := by rw [h]
theorem ret_int {k : IntKind} {a b : Int} (h : a = b) : Ending.returned (.int k a) = .returned (.int k b) := by rw [h]
end Go.Vir
