/- Slices of slices, appends of slices of items. -/
import Derived.Test.YtpjhjjkkbbmnjaaGreatDoorWkV
import Derived.Test.YtpjhjjkkbbmnjaaGreatDoorField
import Derived.Deep.RegionLaw
namespace Go.Vir
open Go Go.RowKit Go.Proofs Go.Shelf
attribute [local go_sem] Oper.semAt_some

theorem Prs.take {w : World} {B n : Nat} {A : Option Addr} {zs : List (Int × Int)} (h : Prs w B A n zs) (k : Nat) (hk : k ≤ n) : Prs w B A k (zs.take k) :=
  ⟨by rw [List.length_take, h.len]; omega, fun h0 => by
    obtain ⟨b, o, e, hb, hc⟩ := h.at_ (by omega)
    refine ⟨b, o, e, hb, fun j hj => ?_⟩
    rw [List.length_take] at hj
    have := hc j (by omega)
    simpa using this⟩

theorem Ints.sub {w : World} {Bd n c : Nat} {A : Option Addr} {zs : List Int} (h : Ints w Bd A n zs) (hc : n ≤ c) (i j : Nat) (hi : i ≤ j) (hj : j ≤ n) :
    Ints w Bd (if c = i then A else Option.map (fun x => x.add i) A) (j - i) (seg zs i j) := by
  have hl := h.len
  have hsl := seg_length zs i j hi (by omega)
  refine ⟨hsl, fun h0 => ?_⟩
  obtain ⟨b, o, rfl, hb, hcl⟩ := h.at_ (by omega)
  rw [if_neg (by omega)]
  refine ⟨b, o + i, ?_, hb, fun y hy => ?_⟩
  · simp only [Option.map_some, Addr.add]
    split
    · rename_i h1; rw [h1]; rfl
    · rfl
  · have h1 := hcl (i + y) (by omega)
    rw [show o + i + y = o + (i + y) by omega, h1]
    simp [seg]

theorem step_append_mine {P : Program} {ops : Array Oper} {o : Oper} {a : Act} {w : World} {K : Act → World → Prop} {Q : Exit → Act → World → Prop} {E : Prop}
    (hg : o.guard = none) (s x : Operand) (t : TypeId) (hop : o.op = Op.call { callee := Callee.builtin Builtin.append, args := #[s, x], argTypes := #[t, t] })
    (base : Nat) (e : TypeId) (i : TypeInfo) (z : Value) (size bytes : Nat) (h1 : P.underlying t = some (.slice e)) (h2 : P.info? e = some i) (h3 : i.zero = some z) (h4 : i.size = size) (h5 : i.bytes = bytes) (h6 : z.cells.size = size) (h7 : 0 < size)
    (v : Value) (n : Nat) (xs : List Value) (hs : a.eval s = v) (hown : w.ownsRow base e size v n xs)
    (ad : Addr) (m c : Nat) (news : List Value) (hx : a.eval x = .slice (some ad) m c) (hn : news.length = m * size) (hc : ∀ j u, news[j]? = some u → w.cell? (ad.add j) = some u) (h1c : ∀ u ∈ news, u.oneCell' = true)
    (b1 : n + m ≤ maxLen) (b2 : (n + m) * bytes ≤ 140737488355328) (hbase : base ≤ w.heap.size)
    (hK : ∀ v' w', w'.ownsRow base e size v' (n + m) (xs ++ news) → w.grownBy w' v.ownBlock → K (a.put o.dst v') w') :
    if Region.wanted o (yielded ops a.tmps) = true then Oper.wp P o a w K Q else E := by
  have hw : Region.wanted o (yielded ops a.tmps) = true := by simp [Region.wanted, hg]
  rw [if_pos hw]
  obtain ⟨v', w', hrun, r1, r2, _⟩ := run_append_own (P := P) w base t o.type e i z size bytes h1 h2 h3 h4 h5 h6 h7 v n xs hown ad m c news hn hc h1c b1 b2 hbase
  unfold Oper.wp
  simp [execOp, hop, resolve, invoke, builtin, hs, hx, hrun, Result.andThen]
  exact hK v' w' r1 r2

theorem cell_two_new (W : World) (x y : Value) (t : TypeId) : ∀ (j : Nat) (u : Value), [x, y][j]? = some u → (W.alloc (.cells #[x, y] t)).cell? ((⟨W.heap.size, 0, none⟩ : Addr).add j) = some u := by
  have e : (W.alloc (.cells #[x, y] t)).heap[W.heap.size]? = some (.cells #[x, y] t (0, 0)) := heap_new rfl
  intro j u hj
  match j, hj with
  | 0, hj => exact (cell_blk e 0).trans (by simpa using hj)
  | 1, hj => exact (cell_blk e 1).trans (by simpa using hj)

theorem step_append_any {P : Program} {ops : Array Oper} {o : Oper} {a : Act} {w : World} {K : Act → World → Prop} {Q : Exit → Act → World → Prop} {E : Prop}
    (hg : o.guard = none) (s x : Operand) (t : TypeId) (hop : o.op = Op.call { callee := Callee.builtin Builtin.append, args := #[s, x], argTypes := #[t, t] })
    (base : Nat) (e : TypeId) (i : TypeInfo) (z : Value) (size bytes : Nat) (h1 : P.underlying t = some (.slice e)) (h2 : P.info? e = some i) (h3 : i.zero = some z) (h4 : i.size = size) (h5 : i.bytes = bytes) (h6 : z.cells.size = size) (h7 : 0 < size)
    (v : Value) (n : Nat) (xs : List Value) (hs : a.eval s = v) (hown : w.ownsRow base e size v n xs)
    (Ax : Option Addr) (m c : Nat) (news : List Value) (hx : a.eval x = .slice Ax m c) (hnone : Ax = none → m = 0 ∧ c = 0) (hn : news.length = m * size) (hc : ∀ ad, Ax = some ad → ∀ j u, news[j]? = some u → w.cell? (ad.add j) = some u) (h1c : ∀ u ∈ news, u.oneCell' = true)
    (b1 : n + m ≤ maxLen) (b2 : (n + m) * bytes ≤ 140737488355328) (hbase : base ≤ w.heap.size)
    (hK : ∀ v' w', w'.ownsRow base e size v' (n + m) (xs ++ news) → w.grownBy w' v.ownBlock → K (a.put o.dst v') w') :
    if Region.wanted o (yielded ops a.tmps) = true then Oper.wp P o a w K Q else E := by
  cases Ax with
  | some ad => exact step_append_mine hg s x t hop base e i z size bytes h1 h2 h3 h4 h5 h6 h7 v n xs hs hown ad m c news hx hn (hc ad rfl) h1c b1 b2 hbase hK
  | none =>
    obtain ⟨rfl, rfl⟩ := hnone rfl
    obtain rfl : news = [] := List.eq_nil_of_length_eq_zero (by simpa using hn)
    have hw : Region.wanted o (yielded ops a.tmps) = true := by simp [Region.wanted, hg]
    rw [if_pos hw]
    have hrun := run_append_owned_none (P := P) (w := w) base t o.type e i size h1 h2 v n xs hown
    unfold Oper.wp
    simp [execOp, hop, resolve, invoke, builtin, hs, hx, hrun, Result.andThen]
    exact hK v w (by simpa using hown) ⟨rfl, rfl, rfl, Nat.le_refl _, fun _ _ _ => rfl⟩

theorem Prs.cells {W : World} {Bd n : Nat} {A : Option Addr} {xs : List (Int × Int)} (h : Prs W Bd A n xs) : ∀ ad, A = some ad → ∀ (j : Nat) (u : Value), (itemVs xs)[j]? = some u → W.cell? (ad.add j) = some u := by
  intro ad hA j u hj
  have hjl := (List.getElem?_eq_some_iff.1 hj).1
  rw [itemVs_len, h.len] at hjl
  obtain ⟨b, o, e, _, hc⟩ := h.at_ (by omega)
  rw [hA] at e
  obtain rfl := Option.some.inj e
  have hj2 : j / 2 < xs.length := by rw [h.len]; omega
  have h2 := hc (j / 2) hj2
  obtain ⟨g1, g2⟩ := itemVs_get xs (j / 2) hj2
  have hadd : (Addr.add ⟨b, o, none⟩ j) = ⟨b, o + j, none⟩ := by
    unfold Addr.add
    split <;> simp_all
  rw [hadd]
  rcases Nat.mod_two_eq_zero_or_one j with h3 | h3
  · have e1 : j = j / 2 * 2 := by omega
    rw [e1, g1] at hj
    rw [e1, h2.1]; exact hj
  · have e1 : j = j / 2 * 2 + 1 := by omega
    rw [e1, g2] at hj
    rw [e1, show o + (j / 2 * 2 + 1) = o + j / 2 * 2 + 1 by omega, h2.2]; exact hj

theorem itemVs_append (xs ys : List (Int × Int)) : itemVs (xs ++ ys) = itemVs xs ++ itemVs ys := by simp [itemVs]
theorem itemVs_one (xs : List (Int × Int)) : ∀ u ∈ itemVs xs, u.oneCell' = true := by
  intro u hu
  obtain ⟨x, _, h⟩ := List.mem_flatMap.1 hu
  simp at h
  rcases h with rfl | rfl <;> rfl

end Go.Vir
