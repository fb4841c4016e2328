/- The library's functions on texts, by the shelf's contracts: Join, Split. -/
import Derived.Test.YtpjhjjkkbbmnjaaGreatDoorShelf
import Derived.Test.YtpjhjjkkbbmnjaaGreatDoorBase
import Derived.Test.YtpjhjjkkbbmnjaaGreatDoorMapS
import Derived.Test.YtpjhjjkkbbmnjaaGreatDoorText
namespace Go.Vir
open Go Go.RowKit Go.Proofs Go.Shelf

theorem join_strs (A : Option Addr) (n c B : Nat) (ss : List (List UInt8)) (b : UInt8) (w : World) (hz : Strs w B A n ss) (hB : B ≤ w.heap.size) (hc : n ≤ c) (hn : n ≤ 1000000) (hl : ∀ x ∈ ss, x.length ≤ 100000) :
    Calls Tryz.prog 55 #[.slice A n c, .string ⟨#[b]⟩] w fun e w' => e = .returned (.string ⟨(Lib.join ss [b]).toArray⟩) ∧ Below w.heap.size w w' := by
  rcases Nat.eq_zero_or_pos n with h0 | h0
  · subst h0
    obtain rfl : ss = [] := List.eq_nil_of_length_eq_zero hz.len
    exact (Tryz.strings_Join_none A c _ w).mono fun e w' ⟨h1, h2⟩ => ⟨h1, h2 ▸ Below.refl _ _⟩
  · obtain ⟨bk, o, rfl, hb, hcell⟩ := hz.at_ h0
    have hlen := hz.len
    have hm : (ss.map fun s => (⟨s.toArray⟩ : ByteArray)).map (·.data.toList) = ss := by
      rw [List.map_map]
      exact (List.map_congr_left (fun x _ => rfl)).trans (List.map_id _)
    have hj := join_length [b] 100000 ss hl
    have h := Tryz.strings_Join bk o c (ss.map fun s => ⟨s.toArray⟩) ⟨#[b]⟩ w (fun j x hx => by
      rw [List.getElem?_map] at hx
      cases hg : ss[j]? with
      | none => rw [hg] at hx; cases hx
      | some y =>
        rw [hg] at hx
        simp only [Option.map_some, Option.some.injEq] at hx
        subst hx
        obtain ⟨hj, rfl⟩ := List.getElem?_eq_some_iff.1 hg
        exact hcell j hj) (by omega) (by rw [List.length_map]; omega) (by rw [List.length_map]; omega) (by
          rw [hm]
          refine Nat.le_trans hj ?_
          rw [hlen]
          have : n * (100000 + [b].length) ≤ 1000000 * 100001 := Nat.mul_le_mul hn (by simp)
          omega)
    rw [List.length_map, hm, hlen] at h
    exact h

theorem split_by (c : UInt8) (x : List UInt8) (m : Int) (w : World) (hx : x.length ≤ 1000000) (hm : w.cell? ⟨3, 0, none⟩ = some (.int .i64 m)) :
    Calls Tryz.prog 78 #[.string ⟨x.toArray⟩, .string ⟨#[c]⟩] w fun e w' => ∃ A n, e = .returned (.slice A n n) ∧ Strs w' w'.heap.size A n (splitL c x) ∧ Below w.heap.size w w' := by
  have h := Tryz.strings_Split ⟨x.toArray⟩ ⟨#[c]⟩ m w (by show x.toArray.size < _; simp; omega) hm (Nat.le_refl 1)
  obtain ⟨a1, a2⟩ := splitK_L c _ x (Nat.le_refl _)
  have hd := Lib.splitB_data ⟨#[c]⟩ 0 (Lib.countB ⟨x.toArray⟩ ⟨#[c]⟩) ⟨x.toArray⟩
  have hd2 : (Lib.splitB ⟨#[c]⟩ 0 (Lib.countB ⟨x.toArray⟩ ⟨#[c]⟩) ⟨x.toArray⟩).map (·.data.toList) = splitL c x := hd.trans a1
  have hc : Lib.countB ⟨x.toArray⟩ ⟨#[c]⟩ + 1 = (splitL c x).length := a2
  rw [hc] at h
  refine h.mono ?_
  rintro e w' ⟨rfl, rfl⟩
  refine ⟨_, _, rfl, ⟨rfl, fun _ => ⟨w.heap.size, 0, rfl, by simp, fun j hj => ?_⟩⟩, (Below.refl _ _).alloc (Nat.le_refl _) _⟩
  generalize Lib.splitB ⟨#[c]⟩ 0 (Lib.countB ⟨x.toArray⟩ ⟨#[c]⟩) ⟨x.toArray⟩ = L at *
  have hj' : j < (L.map (·.data.toList)).length := by rw [hd2]; exact hj
  have hg : (splitL c x)[j] = (L.map (·.data.toList))[j] := by simp only [hd2]
  rw [hg]
  simp only [List.length_map] at hj'
  rw [World.cell?, World.alloc_heap_new]
  simp [hj']
end Go.Vir
