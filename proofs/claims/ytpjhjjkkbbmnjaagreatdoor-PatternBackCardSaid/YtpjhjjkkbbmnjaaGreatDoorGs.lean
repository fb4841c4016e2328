/- Rows: texts that come in. -/
import Derived.Test.YtpjhjjkkbbmnjaaGreatDoorGp
import Derived.SliceStrings
import Derived.ChangeMaps5
namespace Go.Vir
open Go Go.RowKit Go.Proofs Go.ChangeShapes Go.WideShapes Go.ChangeAt

theorem strs_opened {W : World} {a : Addr} {len cap : Nat} {ss : List ByteArray} (hl : len ≤ cap) (hz : ss.length = cap)
    (hc : ∀ i, i < ss.length → W.cell? (a.add i) = some (.string (ss.getD i ByteArray.empty))) : Strs W W.heap.size (some a) len ((ss.take len).map (·.data.toList)) := by
  have hlen : ((ss.take len).map (·.data.toList)).length = len := by simp; omega
  refine ⟨hlen, fun h0 => ?_⟩
  obtain ⟨b, o, sp⟩ := a
  have h1 := hc 0 (by omega)
  have hsp : sp = none := by
    cases sp with
    | none => rfl
    | some x =>
      simp only [Addr.add, if_pos, World.cell?] at h1
      split at h1 <;> simp at h1
  subst hsp
  have hb : b < W.heap.size := by
    rcases Nat.lt_or_ge b W.heap.size with h | h
    · exact h
    · simp [World.cell?, Addr.add, Array.getElem?_eq_none h] at h1
  refine ⟨b, o, rfl, hb, fun j hj => ?_⟩
  rw [hlen] at hj
  have hj2 : j < ss.length := by omega
  have h2 := hc j hj2
  have e : (Addr.add ⟨b, o, none⟩ j) = ⟨b, o + j, none⟩ := by
    unfold Addr.add
    split <;> simp_all
  rw [e] at h2
  rw [h2]
  simp [List.getD, hj2]

set_option maxRecDepth 100000 in
theorem open_texts {H : Type} {enc : TypeId × Value → H} {W : World} {base : Nat} {v : Value} {d : DataW H} {p : List MemPlace}
    (hval : Value.okWide Tryz.prog W .any base 25 v) (h : DataW.Trod enc Tryz.prog W 0 (fun _ => true) true 25 v d p) :
    ∃ A n c ss, v = .slice A n c ∧ n ≤ 9223372036854775807 ∧ Strs W W.heap.size A n ss := by
  obtain ⟨a0, len, cap, rfl⟩ := okWide_slice Tryz.underlying25 hval
  obtain ⟨fuel, hf⟩ := h
  rcases open_strings Tryz.underlying25 Tryz.underlying9 (by kernel_rfl) hf with ⟨hcs, hx⟩ | ⟨a, len', cap', ss, hcs, _, hl, hm, hz, hx, hcell, _⟩
  · simp [Value.cells] at hcs
    obtain ⟨rfl, rfl, rfl⟩ := hcs
    exact ⟨_, _, _, [], rfl, by omega, Strs.nil _ _ _⟩
  · simp [Value.cells] at hcs
    obtain ⟨rfl, rfl, rfl⟩ := hcs
    unfold maxLen at hm
    exact ⟨_, _, _, _, rfl, by omega, strs_opened hl (by simpa using hz) hcell⟩

set_option maxRecDepth 100000 in
theorem open_text {H : Type} {enc : TypeId × Value → H} {W : World} {base : Nat} {v : Value} {d : DataW H} {p : List MemPlace}
    (hval : Value.okWide Tryz.prog W .any base 9 v) (h : DataW.Trod enc Tryz.prog W 0 (fun _ => true) true 9 v d p) :
    ∃ s : List UInt8, v = .string ⟨s.toArray⟩ ∧ s.length ≤ 9223372036854775807 := by
  obtain ⟨s, rfl, _, _, hs⟩ := Go.ChangeMaps.open_string Tryz.underlying9 hval h
  refine ⟨s.data.toList, by simp, ?_⟩
  unfold maxLen at hs
  have : s.size = s.data.toList.length := Lib.size_eq s
  omega
end Go.Vir
