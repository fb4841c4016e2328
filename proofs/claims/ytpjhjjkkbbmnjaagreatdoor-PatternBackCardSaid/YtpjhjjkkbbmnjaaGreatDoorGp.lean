/- The rows of viramalaw09: a pattern, numbers that come in. -/
import Derived.Test.YtpjhjjkkbbmnjaaGreatDoorGl
import Derived.Test.YtpjhjjkkbbmnjaaGreatDoorWkA
import Derived.ChangeSame
namespace Go.Vir
open Go Go.RowKit Go.Proofs Go.ChangeShapes Go.WideShapes Go.ChangeAt

theorem list_of_each {α : Type} {Q : Nat → α → Prop} : ∀ (n : Nat), (∀ i, i < n → ∃ x, Q i x) → ∃ l : List α, l.length = n ∧ ∀ i (h : i < l.length), Q i l[i]
  | 0, _ => ⟨[], rfl, fun i h => absurd h (by simp)⟩
  | n + 1, h => by
    obtain ⟨l, hl, hq⟩ := list_of_each n (fun i hi => h i (by omega))
    obtain ⟨x, hx⟩ := h n (by omega)
    refine ⟨l ++ [x], by simp [hl], fun i hi => ?_⟩
    rcases Nat.lt_or_ge i n with h1 | h1
    · rw [List.getElem_append_left (by omega)]; exact hq i (by omega)
    · have : i = n := by simp [hl] at hi; omega
      subst this
      rw [List.getElem_append_right (by omega)]
      simpa [hl] using hx

theorem cells_two {W : World} {a : Addr} {cs : List Value} (h : W.cells? 0 a 2 = some cs) : ∃ x y, cs = [x, y] ∧ W.cell? a = some x ∧ W.cell? (a.add 1) = some y := by
  unfold World.cells? at h
  have e0 : a.add 0 = a := by simp [Addr.add]
  split at h
  · simp only [List.range_succ, List.range_zero, List.nil_append, List.cons_append, List.mapM_cons, List.mapM_nil, e0] at h
    cases h0 : W.cell? a with
    | none => simp [h0] at h
    | some x =>
      cases h1 : W.cell? (a.add 1) with
      | none => simp [h0, h1] at h
      | some y => simp [h0, h1] at h; exact ⟨x, y, h.symm, rfl, rfl⟩
  · cases h

set_option maxRecDepth 100000 in
theorem open_pattern {H : Type} {enc : TypeId × Value → H} {W : World} {base : Nat} {v : Value} {d : DataW H} {p : List MemPlace}
    (hval : Value.okWide Tryz.prog W .any base 24 v) (h : DataW.Trod enc Tryz.prog W 0 (fun _ => true) true 24 v d p) :
    ∃ st A m c xs, v = .agg #[.bool st, .slice A m c] ∧ m ≤ c ∧ Prs W W.heap.size A m xs := by
  unfold Value.okWide at hval
  simp only [Tryz.underlying24] at hval
  obtain ⟨cs, rfl, hsz, _⟩ := hval
  obtain ⟨fuel, hf⟩ := h
  obtain ⟨y0, y1, n, hx, hl, h0, h1⟩ := trod_struct2 Tryz.underlying24 hf
  have c24 : Tryz.prog.cellsOf 24 = 2 := by kernel_rfl
  have c4 : Tryz.prog.cellsOf 4 = 1 := by kernel_rfl
  have c22 : Tryz.prog.cellsOf 22 = 1 := by kernel_rfl
  have c42 : Tryz.prog.cellsOf 70 = 2 := by kernel_rfl
  have c2 : Tryz.prog.cellsOf 2 = 1 := by kernel_rfl
  have c3 : Tryz.prog.cellsOf 3 = 1 := by kernel_rfl
  rw [c24] at hsz
  have hcs : cs = #[cs[0], cs[1]] := by
    apply Array.ext
    · simpa using hsz
    · intro i h1 h2
      match i, h2 with
      | 0, _ => rfl
      | 1, _ => rfl
  generalize cs[0] = x0 at hcs
  generalize cs[1] = x1 at hcs
  subst hcs
  clear hsz hl hf hx
  have h0' : DataW.trod enc Tryz.prog W 0 (fun _ => true) true n 4 [x0] = some y0 := by
    have := h0
    simp only [Value.cells, c4] at this
    exact this
  have h1' : DataW.trod enc Tryz.prog W 0 (fun _ => true) true n 22 [x1] = some y1 := by
    have := h1
    simp only [Value.cells, c22] at this
    exact this
  obtain ⟨st, e0, _⟩ := DataW.trod_bool Tryz.underlying4 h0'
  obtain rfl : x0 = .bool st := by simpa using e0
  rcases DataW.trod_slice Tryz.underlying22 h1' with ⟨e1, _⟩ | ⟨a, len, cap, elems, rest, n', _, e1, _, _, hlc, _, hlen, hel, _, _⟩
  · obtain rfl : x1 = .slice none 0 0 := by simpa using e1
    exact ⟨st, none, 0, 0, [], rfl, Nat.le_refl _, Prs.nil _ _ _⟩
  · obtain rfl : x1 = .slice (some a) len cap := by simpa using e1
    have each : ∀ i, i < len → ∃ z : Int × Int, W.cell? (a.add (i * 2)) = some (.int .i64 z.1) ∧ W.cell? ((a.add (i * 2)).add 1) = some (.int .i64 z.2) := by
      intro i hi
      have h2 := hel i hi
      rw [c42, List.getElem?_eq_getElem (by omega)] at h2
      obtain ⟨cs2, hc2, h3⟩ := Option.bind_eq_some_iff.1 h2
      obtain ⟨x, y, rfl, hx, hy⟩ := cells_two hc2
      obtain ⟨z0, z1, n2, _, _, h4, h5⟩ := trod_struct2 Tryz.underlying70 h3
      have h4' : DataW.trod enc Tryz.prog W 0 (fun _ => true) true n2 2 [x] = some z0 := by
        have := h4
        simp only [c2] at this
        exact this
      have h5' : DataW.trod enc Tryz.prog W 0 (fun _ => true) true n2 3 [y] = some z1 := by
        have := h5
        simp only [c3] at this
        exact this
      obtain ⟨u, e4, _, _⟩ := DataW.trod_int Tryz.underlying2 h4'
      obtain ⟨v, e5, _, _⟩ := DataW.trod_int Tryz.underlying3 h5'
      obtain rfl : x = .int .i64 u := by simpa using e4
      obtain rfl : y = .int .i64 v := by simpa using e5
      exact ⟨(u, v), hx, hy⟩
    obtain ⟨xs, hxl, hxs⟩ := list_of_each len each
    refine ⟨st, some a, len, cap, xs, rfl, hlc, hxl, fun hpos => ?_⟩
    obtain ⟨b, o, sp⟩ := a
    have hsp := (hxs 0 (by omega)).1
    have hs2 : sp = none := by
      cases sp with
      | none => rfl
      | some q =>
        simp only [Addr.add, Nat.zero_mul, if_pos, World.cell?] at hsp
        split at hsp <;> simp at hsp
    subst hs2
    have hb : b < W.heap.size := by
      rcases Nat.lt_or_ge b W.heap.size with hh | hh
      · exact hh
      · simp [World.cell?, Addr.add, Array.getElem?_eq_none hh] at hsp
    refine ⟨b, o, rfl, hb, fun j hj => ?_⟩
    have hadd : ∀ k, (Addr.add ⟨b, o, none⟩ k) = ⟨b, o + k, none⟩ := fun k => by
      unfold Addr.add
      split <;> simp_all
    have h6 := hxs j hj
    rw [hadd] at h6
    refine ⟨h6.1, ?_⟩
    have h7 := h6.2
    simpa [Addr.add] using h7
theorem ints_opened {W : World} {a : Addr} {len cap : Nat} {zs : List Int} (hl : len ≤ cap) (hz : zs.length = cap)
    (hc : ∀ i, i < zs.length → W.cell? (a.add i) = some (.int .i64 (zs.getD i 0))) : Ints W W.heap.size (some a) len (zs.take len) := by
  have hlen : (zs.take len).length = len := by simp; omega
  refine ⟨hlen, fun h0 => ?_⟩
  obtain ⟨b, o, sp⟩ := a
  have h1 := hc 0 (by omega)
  have hsp : sp = none := by
    cases sp with
    | none => rfl
    | some x => 
      simp only [Addr.add, if_pos, World.cell?] at h1
      split at h1 <;> simp at h1
  subst hsp
  have hb : b < W.heap.size := by
    rcases Nat.lt_or_ge b W.heap.size with h | h
    · exact h
    · simp [World.cell?, Addr.add, Array.getElem?_eq_none h] at h1
  refine ⟨b, o, rfl, hb, fun j hj => ?_⟩
  have hj2 : j < zs.length := by omega
  have h2 := hc j hj2
  have e : (Addr.add ⟨b, o, none⟩ j) = ⟨b, o + j, none⟩ := by
    unfold Addr.add
    split <;> simp_all
  rw [e] at h2
  rw [h2]
  simp [List.getD, hj2]

set_option maxRecDepth 100000 in
theorem open_numbers {H : Type} {enc : TypeId × Value → H} {W : World} {base : Nat} {v : Value} {d : DataW H} {p : List MemPlace}
    (hval : Value.okWide Tryz.prog W .any base 36 v) (h : DataW.Trod enc Tryz.prog W 0 (fun _ => true) true 36 v d p) :
    ∃ A n c zs, v = .slice A n c ∧ n ≤ c ∧ Ints W W.heap.size A n zs := by
  obtain ⟨a0, len, cap, rfl⟩ := okWide_slice Tryz.underlying36 hval
  obtain ⟨fuel, hf⟩ := h
  rcases open_ints Tryz.underlying36 Tryz.underlying3 (by kernel_rfl) hf with ⟨hcs, hx⟩ | ⟨a, len', cap', zs, hcs, _, hl, hmx, hz, hx, hcell, _⟩
  · simp [Value.cells] at hcs
    obtain ⟨rfl, rfl, rfl⟩ := hcs
    exact ⟨_, _, _, [], rfl, Nat.le_refl _, Ints.nil _ _ _⟩
  · simp [Value.cells] at hcs
    obtain ⟨rfl, rfl, rfl⟩ := hcs
    exact ⟨_, _, _, _, rfl, hl, ints_opened hl (by simpa using hz) hcell⟩
end Go.Vir
