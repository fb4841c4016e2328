/- Joined texts: Rcs, Rgs, MapB, TrE, Tst, Spq, SpA, SpB, SpC, TrF. -/
import Derived.Test.YtjbeaheenfcgdaaGreatDoorDe
import Derived.Test.YtjbeaheenfcgdaaGreatDoorDd
import Derived.Test.YtjbeaheenfcgdaaGreatDoorDb
import Derived.Test.YtjbeaheenfcgdaaGreatDoorDa
import Derived.Laws.StructEq
import Derived.Stop.BytesEq
import Derived.WideKeyRuns
import Derived.Laws.Rows
import Derived.Laws.Tables
import Derived.Lib.Hide
import Derived.Deep.RegionHeld3
import Derived.Deep.RegionLaw
namespace Go.Vir
open Go Go.RowKit Go.Proofs Go.Shelf
attribute [local go_sem] Oper.semAt_some

def recCs (x : RecV) (A : Option Addr) (n c : Nat) : List Value := [.int .i64 x.line, .int .i64 x.f, .int .i64 x.t, .slice A n c]
def RCs (w : World) (B F : Nat) (g : Option Nat) : List RecV → List Value → Prop
  | [], xs => xs = []
  | x :: rs, xs => ∃ A n c ys, xs = recCs x A n c ++ ys ∧ Strs w B A n x.fs ∧ n ≤ c ∧ Off F g A n ∧ RCs w B F g rs ys
def RecAt (w : World) (B b o : Nat) (x : RecV) : Prop :=
  ∃ A n c, w.cell? ⟨b, o, none⟩ = some (.int .i64 x.line) ∧ w.cell? ⟨b, o + 1, none⟩ = some (.int .i64 x.f) ∧ w.cell? ⟨b, o + 2, none⟩ = some (.int .i64 x.t) ∧ w.cell? ⟨b, o + 3, none⟩ = some (.slice A n c) ∧ Strs w B A n x.fs ∧ n ≤ c
structure Recs (w : World) (B : Nat) (A : Option Addr) (n : Nat) (rs : List RecV) : Prop where
  len : rs.length = n
  at_ : 0 < n → ∃ b o, A = some ⟨b, o, none⟩ ∧ b < B ∧ ∀ (j : Nat) (h : j < rs.length), RecAt w B b (o + j * 4) rs[j]

section
variable {w w' : World} {B B' F n : Nat} {g : Option Nat} {A : Option Addr}
theorem RecAt.below {x : RecV} {b o : Nat} (h : RecAt w B b o x) (hb : Below B w w') (hlt : b < B) : RecAt w' B b o x := by
  obtain ⟨A, n, c, c0, c1, c2, c3, hm, hn⟩ := h
  exact ⟨A, n, c, (cellOf hb hlt).trans c0, (cellOf hb hlt).trans c1, (cellOf hb hlt).trans c2, (cellOf hb hlt).trans c3, hm.below hb, hn⟩
theorem RecAt.more {x : RecV} {b o : Nat} (h : RecAt w B b o x) (hB : B ≤ B') : RecAt w B' b o x := by
  obtain ⟨A, n, c, c0, c1, c2, c3, hm, hn⟩ := h
  exact ⟨A, n, c, c0, c1, c2, c3, hm.more hB, hn⟩
theorem Recs.below {rs : List RecV} (h : Recs w B A n rs) (hb : Below B w w') : Recs w' B A n rs :=
  ⟨h.len, fun hn => let ⟨b, o, e, hlt, hc⟩ := h.at_ hn; ⟨b, o, e, hlt, fun j hj => (hc j hj).below hb hlt⟩⟩
theorem Recs.more {rs : List RecV} (h : Recs w B A n rs) (hB : B ≤ B') : Recs w B' A n rs :=
  ⟨h.len, fun hn => let ⟨b, o, e, hlt, hc⟩ := h.at_ hn; ⟨b, o, e, by omega, fun j hj => (hc j hj).more hB⟩⟩
theorem Recs.nil (w : World) (B : Nat) (A : Option Addr) : Recs w B A 0 [] := ⟨rfl, fun h => absurd h (by omega)⟩

theorem Strs.kept {ss : List (List UInt8)} (h : Strs w B A n ss) (hf : Off F g A n) (hk : ∀ k, F ≤ k → k < B → some k ≠ g → w'.heap[k]? = w.heap[k]?) (hB : B ≤ B') : Strs w' B' A n ss :=
  ⟨h.len, fun hn => by
    obtain ⟨b, o, e, hlt, hc⟩ := h.at_ hn
    obtain ⟨b', o', e', hF, hg⟩ := hf hn
    rw [e] at e'
    obtain ⟨rfl, rfl⟩ : b = b' ∧ o = o' := by simpa using e'
    exact ⟨b, o, e, by omega, fun j hj => (World.cell?_of_block (a := ⟨b, o + j, none⟩) (hk b hF hlt hg)).trans (hc j hj)⟩⟩
theorem RCs.keep : ∀ {rs : List RecV} {xs : List Value}, RCs w B F g rs xs → (∀ k, F ≤ k → k < B → some k ≠ g → w'.heap[k]? = w.heap[k]?) → B ≤ B' → RCs w' B' F g rs xs
  | [], _, h, _, _ => h
  | _ :: _, _, ⟨A, n, c, ys, e, hm, hn, hl, ht⟩, hk, hB => ⟨A, n, c, ys, e, hm.kept hl hk hB, hn, hl, ht.keep hk hB⟩
theorem RCs.below {rs : List RecV} {xs : List Value} (h : RCs w B F g rs xs) (hb : Below B w w') (hB : B ≤ B') : RCs w' B' F g rs xs := h.keep (fun k _ hk _ => hb.block k hk) hB
theorem Off.moveS {ss : List (List UInt8)} (h : Off F g A n) (hp : Strs w B A n ss) {g' : Option Nat} (hg : g' = g ∨ ∃ k, B ≤ k ∧ g' = some k) : Off F g' A n := fun hn => by
  obtain ⟨b, o, e, hF, hne⟩ := h hn
  obtain ⟨b', o', e', hlt, _⟩ := hp.at_ hn
  rw [e] at e'
  obtain ⟨rfl, rfl⟩ : b = b' ∧ o = o' := by simpa using e'
  refine ⟨b, o, e, hF, ?_⟩
  rcases hg with rfl | ⟨k, hk, rfl⟩
  · exact hne
  · simp; omega
theorem RCs.move {g' : Option Nat} (hg : g' = g ∨ ∃ k, B ≤ k ∧ g' = some k) : ∀ {rs : List RecV} {xs : List Value}, RCs w B F g rs xs → RCs w B F g' rs xs
  | [], _, h => h
  | _ :: _, _, ⟨A, n, c, ys, e, hm, hn, hl, ht⟩ => ⟨A, n, c, ys, e, hm, hn, hl.moveS hm hg, ht.move hg⟩
theorem RCs.snoc {x : RecV} {A : Option Addr} {n c : Nat} (hm : Strs w B A n x.fs) (hn : n ≤ c) (hl : Off F g A n) : ∀ {rs : List RecV} {xs : List Value}, RCs w B F g rs xs → RCs w B F g (rs ++ [x]) (xs ++ recCs x A n c)
  | [], _, h => by
    have h' : _ = [] := h
    subst h'
    exact ⟨A, n, c, [], by simp, hm, hn, hl, rfl⟩
  | _ :: _, _, ⟨A', n', c', ys, e, hm', hn', hl', ht⟩ => ⟨A', n', c', ys ++ recCs x A n c, by rw [e, List.append_assoc], hm', hn', hl', ht.snoc hm hn hl⟩
theorem RCs.get : ∀ {rs : List RecV} {xs : List Value}, RCs w B F g rs xs → ∀ (j : Nat) (h : j < rs.length), ∃ A n c, Strs w B A n rs[j].fs ∧ n ≤ c ∧
    xs[j * 4]? = some (.int .i64 rs[j].line) ∧ xs[j * 4 + 1]? = some (.int .i64 rs[j].f) ∧ xs[j * 4 + 2]? = some (.int .i64 rs[j].t) ∧ xs[j * 4 + 3]? = some (.slice A n c)
  | [], _, _, j, h => absurd h (by simp)
  | x :: rs, _, ⟨A, n, c, ys, e, hm, hn, hl, ht⟩, 0, h => ⟨A, n, c, hm, hn, by subst e; exact ⟨rfl, rfl, rfl, rfl⟩⟩
  | x :: rs, _, ⟨A, n, c, ys, e, hm, hn, hl, ht⟩, j + 1, h => by
    obtain ⟨A', n', c', hm', hn', h0, h1, h2, h3⟩ := ht.get j (by simpa using h)
    have key : ∀ i, (recCs x A n c ++ ys)[(j + 1) * 4 + i]? = ys[j * 4 + i]? := fun i => by
      rw [List.getElem?_append_right (by simp [recCs]; omega)]
      congr 1
      simp [recCs]; omega
    subst e
    exact ⟨A', n', c', hm', hn', (key 0).trans h0, (key 1).trans h1, (key 2).trans h2, (key 3).trans h3⟩
theorem RCs.len : ∀ {rs : List RecV} {xs : List Value}, RCs w B F g rs xs → xs.length = rs.length * 4
  | [], _, h => by
    have h' : _ = [] := h
    subst h'; rfl
  | _ :: _, _, ⟨A, n, c, ys, e, _, _, _, ht⟩ => by
    subst e; simp [recCs, ht.len]; omega

theorem recs_own {W : World} {base : Nat} {v : Value} {rs : List RecV} {xs : List Value} (h : W.ownsRow base 82 4 v rs.length xs) (hr : RCs W B F g rs xs) (hB : B ≤ W.heap.size) :
    ∃ A n c, v = .slice A n c ∧ n = rs.length ∧ n ≤ c ∧ Recs W W.heap.size A n rs := by
  rcases h.2 with ⟨rfl, h0⟩ | ⟨gb, cap, cur, rfl, _, hg, hc, _, _, ht⟩
  · have : rs = [] := List.eq_nil_of_length_eq_zero h0
    subst this
    exact ⟨none, 0, 0, rfl, rfl, Nat.le_refl _, Recs.nil _ _ _⟩
  · refine ⟨_, _, cap, rfl, rfl, hc, rfl, fun h0 => ⟨gb, 0, rfl, (Array.getElem?_eq_some_iff.1 hg).1, fun j hj => ?_⟩⟩
    obtain ⟨A, n, c, hm, hn, h0, h1, h2, h3⟩ := hr.get j hj
    have key : ∀ i u, i < 4 → xs[j * 4 + i]? = some u → W.cell? ⟨gb, 0 + j * 4 + i, none⟩ = some u := fun i u hi hx => by
      rw [cell_blk hg, Nat.zero_add]
      rw [← ht, List.getElem?_take] at hx
      split at hx
      · simpa using hx
      · cases hx
    exact ⟨A, n, c, key 0 _ (by omega) h0, key 1 _ (by omega) h1, key 2 _ (by omega) h2, key 3 _ (by omega) h3, hm.more hB, hn⟩
theorem rcs_added {W w8 : World} {F B : Nat} {acc : List RecV} {xs : List Value} {v v' : Value} (hrv : RCs W B F v.ownBlock acc xs) (hB : B ≤ W.heap.size) (hgrow : W.grownBy w8 v.ownBlock) (hat : v'.ownBlock = v.ownBlock ∨ v'.ownBlock = some W.heap.size) :
    RCs w8 w8.heap.size F v'.ownBlock acc xs :=
  ((hrv.keep (w' := w8) (fun k _ h2 h3 => hgrow.block k (Nat.lt_of_lt_of_le h2 hB) h3) (Nat.le_refl _)).move (hat.imp id fun e => ⟨_, hB, e⟩)).keep (fun _ _ _ _ => rfl) (Nat.le_trans hB hgrow.size)
end

theorem cell_four_new (W : World) (x y z u : Value) (t : TypeId) : ∀ (j : Nat) (q : Value), [x, y, z, u][j]? = some q → (W.alloc (.cells #[x, y, z, u] t)).cell? ((⟨W.heap.size, 0, none⟩ : Addr).add j) = some q := by
  have e : (W.alloc (.cells #[x, y, z, u] t)).heap[W.heap.size]? = some (.cells #[x, y, z, u] t (0, 0)) := heap_new rfl
  intro j q hj
  match j, hj with
  | 0, hj => exact (cell_blk e 0).trans (by simpa using hj)
  | 1, hj => exact (cell_blk e 1).trans (by simpa using hj)
  | 2, hj => exact (cell_blk e 2).trans (by simpa using hj)
  | 3, hj => exact (cell_blk e 3).trans (by simpa using hj)
theorem rec_info : (Tryz.prog.info? 82).map (fun i => (i.zero, i.size, i.bytes)) = some (some (.agg #[.int .i64 0, .int .i64 0, .int .i64 0, .slice none 0 0]), 4, 48) := by kernel_rfl
end Go.Vir


namespace Go.Vir
open Go Go.RowKit Go.Proofs Go.Shelf
attribute [local go_sem] Oper.semAt_some

structure Rgs (w : World) (B : Nat) (A : Option Addr) (n : Nat) (l : List Rg) : Prop where
  len : l.length = n
  at_ : 0 < n → ∃ b o, A = some ⟨b, o, none⟩ ∧ b < B ∧ ∀ (j : Nat) (h : j < l.length), w.cell? ⟨b, o + j * 3, none⟩ = some (.int .i64 l[j].f) ∧ w.cell? ⟨b, o + j * 3 + 1, none⟩ = some (.int .i64 l[j].t) ∧ w.cell? ⟨b, o + j * 3 + 2, none⟩ = some (.int .i64 l[j].v)
def encR (x : Rg) : Value := .agg #[.int .i64 x.f, .int .i64 x.t, .int .i64 x.v]
def rgVs (l : List Rg) : List Value := l.flatMap fun x => [.int .i64 x.f, .int .i64 x.t, .int .i64 x.v]

section
variable {w w' : World} {B B' n F : Nat} {A : Option Addr} {g : Option Nat}
theorem Rgs.below {l : List Rg} (h : Rgs w B A n l) (hb : Below B w w') : Rgs w' B A n l :=
  ⟨h.len, fun hn => let ⟨b, o, e, hlt, hc⟩ := h.at_ hn; ⟨b, o, e, hlt, fun j hj => ⟨(cellOf hb hlt).trans (hc j hj).1, (cellOf hb hlt).trans (hc j hj).2.1, (cellOf hb hlt).trans (hc j hj).2.2⟩⟩⟩
theorem Rgs.more {l : List Rg} (h : Rgs w B A n l) (hB : B ≤ B') : Rgs w B' A n l :=
  ⟨h.len, fun hn => let ⟨b, o, e, hlt, hc⟩ := h.at_ hn; ⟨b, o, e, by omega, hc⟩⟩
theorem Rgs.nil (w : World) (B : Nat) (A : Option Addr) : Rgs w B A 0 [] := ⟨rfl, fun h => absurd h (by omega)⟩
theorem Rgs.kept {l : List Rg} (h : Rgs w B A n l) (hf : Off F g A n) (hk : ∀ k, F ≤ k → k < B → some k ≠ g → w'.heap[k]? = w.heap[k]?) (hB : B ≤ B') : Rgs w' B' A n l :=
  ⟨h.len, fun hn => by
    obtain ⟨b, o, e, hlt, hc⟩ := h.at_ hn
    obtain ⟨b', o', e', hF, hg⟩ := hf hn
    rw [e] at e'
    obtain ⟨rfl, rfl⟩ : b = b' ∧ o = o' := by simpa using e'
    have hb := hk b hF hlt hg
    exact ⟨b, o, e, by omega, fun j hj => ⟨(World.cell?_of_block (a := ⟨b, _, none⟩) hb).trans (hc j hj).1, (World.cell?_of_block (a := ⟨b, _, none⟩) hb).trans (hc j hj).2.1, (World.cell?_of_block (a := ⟨b, _, none⟩) hb).trans (hc j hj).2.2⟩⟩⟩
theorem Rgs.take {l : List Rg} (h : Rgs w B A n l) (k : Nat) (hk : k ≤ n) : Rgs w B A k (l.take k) :=
  ⟨by rw [List.length_take, h.len]; omega, fun h0 => by
    obtain ⟨b, o, e, hb, hc⟩ := h.at_ (by omega)
    refine ⟨b, o, e, hb, fun j hj => ?_⟩
    rw [List.length_take] at hj
    have := hc j (by omega)
    simpa using this⟩
end

theorem rgVs_len (l : List Rg) : (rgVs l).length = l.length * 3 := by
  induction l with
  | nil => rfl
  | cons x t ih => simp only [rgVs, List.flatMap_cons, List.length_append, List.length_cons, List.length_nil] at ih ⊢; omega
theorem rgVs_app (l : List Rg) (x : Rg) : rgVs (l ++ [x]) = rgVs l ++ [.int .i64 x.f, .int .i64 x.t, .int .i64 x.v] := by simp [rgVs]
theorem rgVs_get : ∀ (l : List Rg) (j : Nat) (h : j < l.length), (rgVs l)[j * 3]? = some (.int .i64 l[j].f) ∧ (rgVs l)[j * 3 + 1]? = some (.int .i64 l[j].t) ∧ (rgVs l)[j * 3 + 2]? = some (.int .i64 l[j].v)
  | x :: t, 0, _ => ⟨rfl, rfl, rfl⟩
  | x :: t, j + 1, h => by
    have := rgVs_get t j (by simpa using h)
    rw [show (j + 1) * 3 = j * 3 + 3 by omega]
    exact this
theorem rgVs_one (l : List Rg) : ∀ u ∈ rgVs l, u.oneCell' = true := by
  intro u hu
  obtain ⟨x, _, h⟩ := List.mem_flatMap.1 hu
  simp at h
  rcases h with rfl | rfl | rfl <;> rfl
theorem rgs_own {W : World} {base : Nat} {v : Value} {l : List Rg} (h : W.ownsRow base 65 3 v l.length (rgVs l)) : ∃ A n c, v = .slice A n c ∧ n = l.length ∧ n ≤ c ∧ Rgs W W.heap.size A n l := by
  rcases h.2 with ⟨rfl, h2⟩ | ⟨g, cap, cur, rfl, _, hgb, hcap, _, hcs, ht⟩
  · obtain rfl : l = [] := List.eq_nil_of_length_eq_zero h2
    exact ⟨_, _, _, rfl, rfl, Nat.le_refl _, Rgs.nil _ _ _⟩
  · refine ⟨_, _, _, rfl, rfl, hcap, rfl, fun _ => ⟨g, 0, rfl, (Array.getElem?_eq_some_iff.1 hgb).1, fun j hj => ?_⟩⟩
    obtain ⟨h1, h2, h3⟩ := rgVs_get l j hj
    rw [← ht, List.getElem?_take] at h1 h2 h3
    simp only [World.cell?, hgb, Nat.zero_add]
    rw [if_pos (by omega)] at h1 h2 h3
    exact ⟨by simpa using h1, by simpa using h2, by simpa using h3⟩
theorem Rgs.cells {W : World} {Bd n : Nat} {A : Option Addr} {l : List Rg} (h : Rgs W Bd A n l) : ∀ ad, A = some ad → ∀ (j : Nat) (u : Value), (rgVs l)[j]? = some u → W.cell? (ad.add j) = some u := by
  intro ad hA j u hj
  have hjl := (List.getElem?_eq_some_iff.1 hj).1
  rw [rgVs_len, h.len] at hjl
  obtain ⟨b, o, e, _, hc⟩ := h.at_ (by omega)
  rw [hA] at e
  obtain rfl := Option.some.inj e
  have hj2 : j / 3 < l.length := by rw [h.len]; omega
  obtain ⟨c1, c2, c3⟩ := hc (j / 3) hj2
  obtain ⟨g1, g2, g3⟩ := rgVs_get l (j / 3) hj2
  have hadd : (Addr.add ⟨b, o, none⟩ j) = ⟨b, o + j, none⟩ := by
    unfold Addr.add
    split <;> simp_all
  rw [hadd]
  rcases (by omega : j = j / 3 * 3 ∨ j = j / 3 * 3 + 1 ∨ j = j / 3 * 3 + 2) with e1 | e1 | e1
  · rw [e1, g1] at hj
    rw [e1, c1]; exact hj
  · rw [e1, g2] at hj
    rw [e1, show o + (j / 3 * 3 + 1) = o + j / 3 * 3 + 1 by omega, c2]; exact hj
  · rw [e1, g3] at hj
    rw [e1, show o + (j / 3 * 3 + 2) = o + j / 3 * 3 + 2 by omega, c3]; exact hj
theorem cell_three_new (W : World) (x y z : Value) (t : TypeId) : ∀ (j : Nat) (q : Value), [x, y, z][j]? = some q → (W.alloc (.cells #[x, y, z] t)).cell? ((⟨W.heap.size, 0, none⟩ : Addr).add j) = some q := by
  have e : (W.alloc (.cells #[x, y, z] t)).heap[W.heap.size]? = some (.cells #[x, y, z] t (0, 0)) := heap_new rfl
  intro j q hj
  match j, hj with
  | 0, hj => exact (cell_blk e 0).trans (by simpa using hj)
  | 1, hj => exact (cell_blk e 1).trans (by simpa using hj)
  | 2, hj => exact (cell_blk e 2).trans (by simpa using hj)
theorem rg_info : (Tryz.prog.info? 65).map (fun i => (i.zero, i.size, i.bytes)) = some (some (.agg #[.int .i64 0, .int .i64 0, .int .i64 0]), 3, 24) := by kernel_rfl

set_option maxHeartbeats 1000000 in
theorem indexFunc_rg {g : Nat} {lb : Array Value} {p : Rg → Bool} (A : Option Addr) (n c : Nat) (xs : List Rg) (w : World)
    (eg : ∀ args w, (callFunc g args).run Tryz.prog w = .ok (.enter g args) w) (hx : Rgs w w.heap.size A n xs) (hp : Says Tryz.prog g lb encR p w) (hn : n ≤ 1000000) :
    Calls Tryz.prog 117 #[.slice A n c, .func (.func g) #[] lb] w fun e w' => e = .returned (.int .i64 (firstB p xs)) ∧ Below w.heap.size w w' := by
  go_enter Tryz.func117, Tryz.ntmps117
  go_wp2
  have hlen := hx.len
  go_loopw [8] (fun i wr => ∃ k : Nat, k ≤ n ∧ i = .int .i64 k ∧ (∀ (j : Nat) (h : j < k) (h2 : j < xs.length), p xs[j] = false) ∧ Below w.heap.size w wr) (fun i _ => n - (RowKit.intOf i).toNat)
  case atStart => exact ⟨0, Nat.zero_le _, rfl, fun j h => absurd h (by omega), Below.refl _ _⟩
  case round =>
    obtain ⟨k, hk, rfl, hno, hb⟩ := hrel
    rcases Nat.lt_or_ge k n with hlt | hge
    · obtain ⟨zb, zo, rfl, hzb, hzc⟩ := hx.at_ (by omega)
      have z1 := (cellOf hb hzb).trans (hzc k (by omega)).1
      have z2 := (cellOf hb hzb).trans (hzc k (by omega)).2.1
      have z3 := (cellOf hb hzb).trans (hzc k (by omega)).2.2
      have hc : Calls Tryz.prog g (#[encR xs[k]] ++ lb) wr _ := hp xs[k] wr hb
      clear hzc
      generalize hxk : xs[k] = x at *
      obtain ⟨x1, x2, x3⟩ := x
      simp only [encR] at hc z1 z2 z3
      go_wp2
      refine hc.mono ?_
      rintro e w1 ⟨rfl, hb1⟩
      rcases hpk : p ⟨x1, x2, x3⟩ with _ | _
      · have hno' : ∀ (j : Nat) (h : j < k + 1) (h2 : j < xs.length), p xs[j] = false := fun j h h2 => by
          rcases Nat.lt_or_ge j k with h3 | h3
          · exact hno j h3 h2
          · obtain rfl : j = k := by omega
            rw [hxk]; exact hpk
        have hb2 := hb.trans (hb1.mono hb.size)
        clear hno hb hb1 hc hpk hxk
        go_wp2
        go_roundw
        case rel => exact ⟨k + 1, by omega, by go_num, hno', hb2⟩
        case measure => simp [RowKit.intOf]; omega
      · have hf : firstB p xs = k := firstB_hit (by omega) (by rw [hxk]; exact hpk) (fun j h => hno j h (by omega))
        have Hf := Lib.hid hf
        clear hf hpk hxk
        go_wp2
        go_ret
        exact ⟨ret_int Hf.out.symm, hb.trans (hb1.mono hb.size)⟩
    · have hf : firstB p xs = -1 := firstB_none (fun j h => hno j (by omega) h)
      have Hf := Lib.hid hf
      clear hf
      go_wp2
      go_ret
      exact ⟨ret_int Hf.out.symm, hb⟩

set_option maxHeartbeats 400000 in
theorem containsFunc_rg {g : Nat} {lb : Array Value} {p : Rg → Bool} (A : Option Addr) (n c : Nat) (xs : List Rg) (w : World)
    (eg : ∀ args w, (callFunc g args).run Tryz.prog w = .ok (.enter g args) w) (hx : Rgs w w.heap.size A n xs) (hp : Says Tryz.prog g lb encR p w) (hn : n ≤ 1000000) :
    Calls Tryz.prog 78 #[.slice A n c, .func (.func g) #[] lb] w fun e w' => e = .returned (.bool (xs.any p)) ∧ Below w.heap.size w w' := by
  have hc := indexFunc_rg A n c xs w eg hx hp hn
  rw [← firstB_ge p xs]
  clear eg hx hp
  go_enter Tryz.func78, Tryz.ntmps78
  go_wp2_with (go_at_call 117; refine hc.mono ?_; rintro e w1 ⟨rfl, hb1⟩)
  go_ret
  exact ⟨rfl, hb1⟩

theorem rg_stood : Program.stoodInHeld Tryz.prog 65 = false := by kernel_rfl
theorem rg_eql (x y : Rg) (w : World) : (binOp .eql 65 (.agg #[.int .i64 x.f, .int .i64 x.t, .int .i64 x.v]) (.agg #[.int .i64 y.f, .int .i64 y.t, .int .i64 y.v])).run Tryz.prog w = .ok (.bool (decide (x = y))) w := by
  obtain ⟨a, b, c⟩ := x
  obtain ⟨d, e, f⟩ := y
  rw [run_eql_struct, show (10000 : Nat) = 9998 + 1 + 1 from rfl, run_equalIn_agg w _ 65 _ _ (by simp only [Program.fieldsOf, Tryz.underlying65]) rg_stood]
  simp only [Program.fieldsOf, Tryz.underlying65]
  by_cases h1 : a = d
  · by_cases h2 : b = e
    · by_cases h3 : c = f <;> simp [go_sem, Op.eqFields, h1, h2, h3, Tryz.underlying3]
    · simp [go_sem, Op.eqFields, h1, h2, Tryz.underlying3]
  · simp [go_sem, Op.eqFields, h1, Tryz.underlying3]
end Go.Vir


namespace Go.Vir
open Go Go.RowKit

abbrev KB := List (List Int × Int)
def intC (v : Int) : Value := .int .i64 v
def blkV (b : List Int) : Value := .agg (b.map intC).toArray
def AscB (es : Array MapEntry) (kvs : KB) : Prop := es.toList.map (fun e => (e.key, e.val)) = kvs.map fun x => (blkV x.1, intC x.2)
def lookB (k : List Int) : KB → Nat → Option (Nat × Int)
  | [], _ => none
  | x :: t, i => if k = x.1 then some (i, x.2) else lookB k t (i + 1)
def valB2 (k : List Int) : KB → Option Int
  | [] => none
  | x :: t => if k = x.1 then some x.2 else valB2 k t
theorem look_valB2 (k : List Int) : ∀ (kvs : KB) (i : Nat), (lookB k kvs i).map (·.2) = valB2 k kvs
  | [], _ => rfl
  | x :: t, i => by
    unfold lookB valB2
    by_cases hk : k = x.1
    · simp [hk]
    · simp only [hk, if_false]; exact look_valB2 k t (i + 1)

theorem all_range_int : ∀ (xs ys : List Int), xs.length = ys.length → ((List.range xs.length).all fun i => xs.getD i 0 == ys.getD i 0) = (xs == ys)
  | [], [], _ => rfl
  | x :: xs, y :: ys, h => by
    have ih := all_range_int xs ys (by simpa using h)
    rw [List.length_cons, List.range_succ_eq_map, List.all_cons, List.all_map]
    simp only [List.getD_cons_zero, Function.comp_def, List.getD_cons_succ, ih]
    simp [List.cons_beq_cons]
  | [], _ :: _, h => by simp at h
  | _ :: _, [], h => by simp at h

section
variable {P : Program}
theorem run_equalIn_blk (w : World) (d : Nat) (t e : TypeId) (n : Nat) (ht : P.underlying t = some (.array n e)) (he : P.underlying e = some (.int .i64)) (hsz : ∀ w, (sizeOf e).run P w = .ok 1 w)
    (xs ys : List Int) (hx : xs.length = n) (hy : ys.length = n) : (Op.equalIn (d + 2) t (blkV xs) (blkV ys)).run P w = .ok (xs == ys) w := by
  unfold blkV
  rw [← all_range_int xs ys (hx.trans hy.symm), hx, List.range_eq_range', Op.equalIn]
  simp only [Sem.run_bind, run_underlying ht, Result.andThen_ok, hsz, Std.Legacy.Range.forIn_eq_forIn_range', Std.Legacy.Range.size, Nat.sub_zero, Nat.add_sub_cancel, Nat.div_one]
  have hl : ∀ i ∈ List.range' 0 n 1, i < n := fun i hi => by simpa using (List.mem_range'_1.1 hi).2
  generalize List.range' 0 n 1 = l at hl ⊢
  induction l with
  | nil => simp
  | cons i l ih =>
    have hi : i < n := hl i (by simp)
    have px : (part e (xs.map intC).toArray (i * 1)).run P w = .ok (intC (xs.getD i 0)) w := by
      simp [part, isAgg, run_underlying he, List.getD, List.getElem?_eq_getElem (show i < xs.length by omega)]
    have py : (part e (ys.map intC).toArray (i * 1)).run P w = .ok (intC (ys.getD i 0)) w := by
      simp [part, isAgg, run_underlying he, List.getD, List.getElem?_eq_getElem (show i < ys.length by omega)]
    have pe : (Op.equalIn (d + 1) e (intC (xs.getD i 0)) (intC (ys.getD i 0))).run P w = .ok (xs.getD i 0 == ys.getD i 0) w := by
      rw [intC, intC, run_equalIn_int w d e .i64 .i64 _ _ he]
    simp only [List.forIn_cons, Sem.run_bind, px, py, pe, Result.andThen_ok, List.all_cons]
    cases hb : (xs.getD i 0 == ys.getD i 0)
    · simp
    · simp only [Bool.not_true, Bool.false_eq_true, if_false, Sem.run_pure, Result.andThen_ok, Bool.true_and]
      exact ih fun j hj => hl j (by simp [hj])
theorem run_checkKey_blk (w : World) (t e : TypeId) (n : Nat) (ht : P.underlying t = some (.array n e)) (he : P.underlying e = some (.int .i64)) (hsz : ∀ w, (sizeOf e).run P w = .ok 1 w)
    (em : Bool) (d : Nat) (xs : List Int) (hx : xs.length = n) : (Instr.checkKey em (d + 2) t (blkV xs)).run P w = .ok () w := by
  unfold blkV
  rw [Instr.checkKey]
  simp only [Sem.run_bind, run_underlying ht, Result.andThen_ok, Std.Legacy.Range.forIn_eq_forIn_range', Std.Legacy.Range.size, Nat.sub_zero, Nat.add_sub_cancel, Nat.div_one]
  have hl : ∀ i ∈ List.range' 0 n 1, i < n := fun i hi => by simpa using (List.mem_range'_1.1 hi).2
  generalize List.range' 0 n 1 = l at hl ⊢
  induction l with
  | nil => simp
  | cons i l ih =>
    have hi : i < n := hl i (by simp)
    have px : (part e (xs.map intC).toArray (i * 1)).run P w = .ok (intC (xs.getD i 0)) w := by
      simp [part, isAgg, run_underlying he, List.getD, List.getElem?_eq_getElem (show i < xs.length by omega)]
    have pe : (Instr.checkKey em (d + 1) e (intC (xs.getD i 0))).run P w = .ok () w := by
      rw [intC, Instr.checkKey]
      simp [run_underlying he, Result.andThen]
    simp only [List.forIn_cons, Sem.run_bind, px, pe, Result.andThen_ok, hsz, Sem.run_pure]
    simpa using ih fun j hj => hl j (by simp [hj])
theorem run_asking_blk (w : World) (t e : TypeId) (n : Nat) (ht : P.underlying t = some (.array n e)) (he : P.underlying e = some (.int .i64)) (hsz : ∀ w, (sizeOf e).run P w = .ok 1 w)
    (k : List Int) (hk : k.length = n) : ∀ (l : List MapEntry) (kvs : KB) (i : Nat), l.map (fun e => (e.key, e.val)) = kvs.map (fun x => (blkV x.1, intC x.2)) → (∀ x ∈ kvs, x.1.length = n) →
    (Instr.findAsking t (blkV k) l i).run P w = .ok ((lookB k kvs i).map fun x => (x.1, intC x.2)) w
  | [], [], _, _, _ => rfl
  | [], _ :: _, _, h, _ => by simp at h
  | _ :: _, [], _, h, _ => by simp at h
  | y :: l, x :: kvs, i, h, hn => by
    simp only [List.map_cons, List.cons.injEq, Prod.mk.injEq] at h
    obtain ⟨⟨h1, h2⟩, h3⟩ := h
    unfold Instr.findAsking Op.equal
    have he := run_equalIn_blk w 9998 t e n ht he hsz k x.1 hk (hn x (List.mem_cons_self ..))
    rw [h1, Sem.run_bind, show Op.maxDepth = 9998 + 2 from rfl, he, Result.andThen_ok]
    by_cases hkx : k = x.1
    · have : (k == x.1) = true := by simpa using hkx
      rw [this]
      simp [lookB, hkx, h2]
    · have : (k == x.1) = false := by simpa using hkx
      rw [this]
      simp only [Bool.false_eq_true, if_false, lookB, hkx]
      exact run_asking_blk w t _ n ht ‹_› hsz k hk l kvs (i + 1) h3 fun y hy => hn y (List.mem_cons_of_mem _ hy)
end
section
variable {P : Program} {t K e E : TypeId} {n r : Nat} {es : Array MapEntry} {clock : Nat} {w : World} {kvs : KB} {k : List Int}
theorem run_find_blk (hK : P.underlying K = some (.array n e)) (he : P.underlying e = some (.int .i64)) (hsz : ∀ w, (sizeOf e).run P w = .ok 1 w) (ha : AscB es kvs) (hn : ∀ x ∈ kvs, x.1.length = n) (hk : k.length = n) :
    (Instr.findKey K (blkV k) es.toList).run P w = .ok ((lookB k kvs 0).map fun x => (x.1, intC x.2)) w := by
  rw [run_findKey_eq w (by rw [hK]) (blkV k) es.toList]
  exact run_asking_blk w K e n hK he hsz k hk es.toList kvs 0 ha hn
theorem run_look_kb (ok : Bool) (ht : P.underlying t = some (.map K E)) (hK : P.underlying K = some (.array n e)) (he : P.underlying e = some (.int .i64)) (hsz : ∀ w, (sizeOf e).run P w = .ok 1 w) (hz : (zeroValue E).run P w = .ok (.int .i64 0) w)
    (hb : w.heap[r]? = some (.map es clock)) (ha : AscB es kvs) (hn : ∀ x ∈ kvs, x.1.length = n) (hk : k.length = n) :
    (Instr.lookup t (.map (some r)) (blkV k) ok).run P w = .ok (if ok then .tuple #[.int .i64 ((valB2 k kvs).getD 0), .bool (valB2 k kvs).isSome] else .int .i64 ((valB2 k kvs).getD 0)) w := by
  have hf := run_find_blk (P := P) (w := w) (k := k) hK he hsz ha hn hk
  rw [← look_valB2 k kvs 0]
  unfold Instr.lookup
  simp only [Sem.run_bind, run_underlying ht, Result.andThen, run_getMap hb, Sem.run_pure, run_checkKey_blk (P := P) w K e n hK he hsz _ 9998 k hk, hf]
  rcases lookB k kvs 0 with _ | ⟨i, v⟩
  · simp [hz, Result.andThen]
  · simp [intC]
theorem run_new_any (v : Int) (ht : P.underlying t = some (.map K E)) (hK : P.underlying K = some (.array n e)) (he : P.underlying e = some (.int .i64)) (hsz : ∀ w, (sizeOf e).run P w = .ok 1 w)
    (ha : AscB es kvs) (hn : ∀ x ∈ kvs, x.1.length = n) (hk : k.length = n) (h0 : valB2 k kvs = none) :
    ∃ es' clock', (∀ w : World, w.heap[r]? = some (.map es clock) → (Instr.mapUpdate t (.map (some r)) (blkV k) (.int .i64 v)).run P w = .ok () (w.putObj r (.map es' clock'))) ∧ AscB es' (kvs ++ [(k, v)]) := by
  refine ⟨es.push { key := blkV k, val := .int .i64 v, born := clock }, clock + 1, fun w hb => ?_, ?_⟩
  · have hf := run_find_blk (P := P) (w := w) (k := k) hK he hsz ha hn hk
    have hl : lookB k kvs 0 = none := by
      have := look_valB2 k kvs 0
      rw [h0] at this
      simpa using this
    rw [hl] at hf
    unfold Instr.mapUpdate
    simp only [Sem.run_bind, run_underlying ht, Result.andThen, run_getMap hb, run_checkKey_blk (P := P) w K e n hK he hsz _ 9998 k hk, hf, Option.map_none, run_setMap _ hb]
  · unfold AscB at ha ⊢
    rw [Array.toList_push, List.map_append, ha, List.map_append]
    rfl
end
end Go.Vir


namespace Go.Vir
open Go Go.RowKit Go.Proofs
attribute [local go_sem] Oper.semAt_some

def blkC (b : List Int) : Array Value := (b.map intC).toArray
theorem zero_blk : Tryz.zeroCells152 = blkC (List.replicate 256 0) := by kernel_rfl
theorem block_nil (row : Nat) : blockT [] row = List.replicate 256 0 := by
  unfold blockT
  rw [show (fun j : Nat => sayR [] ((row * 256 + j : Nat) : Int)) = fun _ => 0 from rfl, List.map_const', List.length_range]
def fillT (l : List Rg) (row : Nat) (x : Rg) (r : Nat) : List Int := (List.range 256).map fun (j : Nat) => if x.f ≤ ((row * 256 + j : Nat) : Int) ∧ row * 256 + j < r ∧ ((row * 256 + j : Nat) : Int) ≤ x.t then x.v else sayR l ((row * 256 + j : Nat) : Int)
theorem fill_start (l : List Rg) (row : Nat) (x : Rg) (q : Nat) (h : (q : Int) = max ((row * 256 : Nat) : Int) x.f) : fillT l row x q = blockT l row := by
  unfold fillT blockT
  apply List.map_congr_left
  intro j _
  rw [if_neg]
  omega
theorem fill_end (l : List Rg) (row : Nat) (x : Rg) (q : Nat) (h : ¬ (q : Int) ≤ min (((row * 256 : Nat) : Int) + 255) x.t) : fillT l row x q = blockT (l ++ [x]) row := by
  unfold fillT blockT
  apply List.map_congr_left
  intro j hj
  rw [say_snoc]
  have hj2 : j < 256 := by simpa using hj
  by_cases hc : x.f ≤ ((row * 256 + j : Nat) : Int) ∧ ((row * 256 + j : Nat) : Int) ≤ x.t
  · rw [if_pos hc, if_pos ⟨hc.1, by omega, hc.2⟩]
  · rw [if_neg hc, if_neg (fun h => hc ⟨h.1, h.2.2⟩)]
theorem fill_step (l : List Rg) (row : Nat) (x : Rg) (q : Nat) (h1 : row * 256 ≤ q) (h2 : x.f ≤ q) (h : (q : Int) ≤ min (((row * 256 : Nat) : Int) + 255) x.t) : (fillT l row x q).set (q - row * 256) x.v = fillT l row x (q + 1) := by
  unfold fillT
  apply List.ext_getElem
  · simp
  · intro i hi1 hi2
    have hi : i < 256 := by simpa using hi2
    rw [List.getElem_set]
    simp only [List.getElem_map, List.getElem_range]
    by_cases e : q - row * 256 = i
    · rw [if_pos e, if_pos (by omega)]
    · rw [if_neg e]
      by_cases hc : x.f ≤ ((row * 256 + i : Nat) : Int) ∧ row * 256 + i < q ∧ ((row * 256 + i : Nat) : Int) ≤ x.t
      · rw [if_pos hc, if_pos ⟨hc.1, by omega, hc.2.2⟩]
      · rw [if_neg hc, if_neg (fun h => hc ⟨h.1, by omega, h.2.2⟩)]
theorem fill_len (l : List Rg) (row : Nat) (x : Rg) (q : Nat) : (fillT l row x q).length = 256 := by simp [fillT]
theorem blkC_set (b : List Int) (j : Nat) (v : Int) : (blkC b).setIfInBounds j (.int .i64 v) = blkC (b.set j v) := by
  unfold blkC
  rw [List.setIfInBounds_toArray, List.map_set]
  rfl
theorem blkC_get {b : List Int} {j : Nat} (h : j < b.length) : (blkC b)[j]? = some (.int .i64 b[j]) := by
  unfold blkC
  simp [h, intC]
theorem blkC_size (b : List Int) : (blkC b).size = b.length := by simp [blkC]
theorem blk_size : (Tryz.prog.info? 152).map (·.size) = some 256 := by kernel_rfl

set_option maxRecDepth 100000 in
set_option maxHeartbeats 4000000 in
theorem trie_fill (row : Nat) (A : Option Addr) (n c : Nat) (l : List Rg) (w : World) (hx : Rgs w w.heap.size A n l) (hn : n ≤ 1000000) (hrow : row < 4352) :
    Calls Tryz.prog 101 #[.int .i64 (row : Int), .slice A n c] w fun e w' => e = .returned (blkV (blockT l row)) ∧ Below w.heap.size w w' := by
  have Hx := Lib.hid hx
  have Hlen := Lib.hid hx.len
  have hfr : (row : Int) * 256 = ((row * 256 : Nat) : Int) := by omega
  have hfb : row * 256 ≤ 1113856 := by omega
  obtain ⟨fr, hfrn⟩ : ∃ fr, fr = row * 256 := ⟨_, rfl⟩
  rw [← hfrn] at hfr hfb
  have Hfrn := Lib.hid hfrn
  clear hx hfrn hrow
  go_enter Tryz.func101, Tryz.ntmps101
  go_wp2_with fail
  go_loopw [14] (fun i wr => ∃ k : Nat, k ≤ n ∧ i = .int .i64 (k : Int) ∧ wr.heap[w.heap.size + 1]? = some (.cells (blkC (blockT (l.take k) row)) 152 (0, 0)) ∧ wr.heap[w.heap.size]? = some (.cells Tryz.zeroCells152 152 (0, 0)) ∧ Below w.heap.size w wr) (fun i _ => n - (RowKit.intOf i).toNat)
  case atStart => exact ⟨0, Nat.zero_le _, rfl, (heap_new (by simp)).trans (by rw [List.take_zero, block_nil, zero_blk]), (heap_old (by simp)).trans (heap_new rfl), by go_grown⟩
  case round =>
    obtain ⟨k, hk, rfl, hg1, hg0, hbr⟩ := hrel
    obtain ⟨wo, hwo⟩ : ∃ wo, wo = wr := ⟨_, rfl⟩
    subst hwo
    have hsr := (Array.getElem?_eq_some_iff.1 hg1).1
    rcases Nat.lt_or_ge k n with hlt | hge
    · obtain ⟨zb, zo, rfl, hzb, hzc⟩ := Hx.out.at_ (by omega)
      have hkl : k < l.length := by rw [Hlen.out]; exact hlt
      obtain ⟨z1, z2, z3⟩ := hzc k hkl
      have u1 := (cellOf hbr hzb).trans z1
      have u2 := (cellOf hbr hzb).trans z2
      have u3 := (cellOf hbr hzb).trans z3
      have htk : l.take (k + 1) = l.take k ++ [l[k]] := List.take_succ_eq_append_getElem hkl
      generalize l[k] = x at *
      obtain ⟨xf, xt, xv⟩ := x
      simp only at u1 u2 u3
      obtain ⟨q0, hq0⟩ : ∃ q0 : Nat, max (fr : Int) xf = (q0 : Int) := ⟨(max (fr : Int) xf).toNat, by omega⟩
      have Htk := Lib.hid htk
      have Hq0 := Lib.hid hq0
      have hb2 : Below w.heap.size w (wo.alloc (.cells #[.int .i64 xf, .int .i64 xt, .int .i64 xv] 65)) := hbr.alloc hbr.size _
      have h1 := (heap_old (w := wo) (o := .cells #[.int .i64 xf, .int .i64 xt, .int .i64 xv] 65) hsr).trans hg1
      have h0 := (heap_old (w := wo) (o := .cells #[.int .i64 xf, .int .i64 xt, .int .i64 xv] 65) (show w.heap.size < wo.heap.size by omega)).trans hg0
      have hy := heap_new (w := wo) (o := .cells #[.int .i64 xf, .int .i64 xt, .int .i64 xv] 65) rfl
      have Hst := Lib.hid (And.intro h1 (And.intro h0 (And.intro hy hb2)))
      clear htk hzc z1 z2 z3 h1 h0 hy hb2 hg1 hg0
      go_wp2_with fail
      go_loopw [9] (fun i wr2 => ∃ q : Nat, fr ≤ q ∧ xf ≤ (q : Int) ∧ (q ≤ 1114112 ∨ q = q0) ∧ i = .int .i64 (q : Int) ∧ wr2.heap[w.heap.size + 1]? = some (.cells (blkC (fillT (l.take k) row ⟨xf, xt, xv⟩ q)) 152 (0, 0)) ∧ wr2.heap[w.heap.size]? = some (.cells Tryz.zeroCells152 152 (0, 0)) ∧
        wr2.heap[wo.heap.size]? = some (.cells #[.int .i64 xf, .int .i64 xt, .int .i64 xv] 65 (0, 0)) ∧ Below w.heap.size w wr2) (fun i _ => 1114112 - (RowKit.intOf i).toNat)
      case atStart =>
        refine ⟨q0, by have := Hq0.out; omega, by have := Hq0.out; omega, .inr rfl, rfl, ?_, Hst.out.2.1, Hst.out.2.2.1, Hst.out.2.2.2⟩
        rw [fill_start _ _ _ _ (by rw [← Hfrn.out]; exact Hq0.out.symm)]
        exact Hst.out.1
      case round =>
        obtain ⟨q, hqf, hqx, hqm, rfl, g1, g0, gy, hbq⟩ := hrel
        have v2 : wr.cell? ⟨wo.heap.size, 1, none⟩ = some (.int .i64 xt) := cell_blk gy 1
        have v3 : wr.cell? ⟨wo.heap.size, 2, none⟩ = some (.int .i64 xv) := cell_blk gy 2
        by_cases hle : (q : Int) ≤ min ((fr : Int) + 256 - 1) xt
        · have hq255 : q - fr < 256 := by omega
          have v4 := (cell_blk g1 (q - fr)).trans (blkC_get (by rw [fill_len]; exact hq255))
          have v5 := frozen_blk g1 (q - fr)
          have hst := fill_step (l.take k) row ⟨xf, xt, xv⟩ q (by rw [← Hfrn.out]; exact hqf) hqx (by rw [← Hfrn.out]; show (q : Int) ≤ min ((fr : Int) + 255) xt; omega)
          rw [← Hfrn.out] at hst
          have Hst2 := Lib.hid hst
          generalize (fillT (l.take k) row ⟨xf, xt, xv⟩ q)[q - fr]'(by rw [fill_len]; exact hq255) = old at v4
          have g1' := setCell_blk g1 (q - fr) (.int .i64 xv)
          rw [blkC_set, hst] at g1'
          have G1 := Lib.hid g1'
          have g0' : (wr.setCell ⟨w.heap.size + 1, q - fr, none⟩ (.int .i64 xv)).heap[w.heap.size]? = _ := (Below.heap_setCell _ _ _ _ (by simp)).trans g0
          have gy' : (wr.setCell ⟨w.heap.size + 1, q - fr, none⟩ (.int .i64 xv)).heap[wo.heap.size]? = _ := (Below.heap_setCell _ _ _ _ (by simp; omega)).trans gy
          have hbq' : Below w.heap.size w (wr.setCell ⟨w.heap.size + 1, q - fr, none⟩ (.int .i64 xv)) := hbq.setCell (p := ⟨w.heap.size + 1, q - fr, none⟩) (by simp) _
          have Hq := Lib.hid (And.intro g0' (And.intro gy' hbq'))
          clear hst g1' g0' gy' hbq' g1 g0 gy hbq
          go_wp2_with fail
          go_roundw
          case rel => exact ⟨q + 1, by omega, by omega, .inl (by omega), by first | rfl | (congr 1), G1.out, Hq.out.1, Hq.out.2.1, Hq.out.2.2⟩
          case measure => simp [RowKit.intOf]; omega
        · have hend := fill_end (l.take k) row ⟨xf, xt, xv⟩ q (by rw [← Hfrn.out]; show ¬ (q : Int) ≤ min ((fr : Int) + 255) xt; omega)
          rw [← Htk.out] at hend
          rw [hend] at g1
          have Hg := Lib.hid (And.intro g1 (And.intro g0 hbq))
          clear hend g1 g0 gy hbq
          go_wp2_with fail
          go_roundw
          case rel => exact ⟨k + 1, by omega, by go_num, Hg.out.1, Hg.out.2.1, Hg.out.2.2⟩
          case measure => simp [RowKit.intOf]; omega
    · obtain rfl : k = n := by omega
      have hall : l.take k = l := List.take_of_length_le (by rw [Hlen.out]; exact Nat.le_refl _)
      rw [hall] at hg1
      have hsz : (blkC (blockT l row)).size = 256 := by rw [blkC_size, block_len]
      have hzs : (Tryz.zeroCells152 : Array Value).size = (blkC (blockT l row)).size := by rw [zero_blk, blkC_size, blkC_size, block_len, List.length_replicate]
      have hone : (blkC (blockT l row)).all (·.oneCell') = true := by simp [blkC, intC, Value.oneCell']
      have hbs : Below w.heap.size w (wo.setRow w.heap.size (blkC (blockT l row))) := hbr.trans ⟨rfl, rfl, rfl, by simp [World.setRow], fun j hj => setRow_other _ _ _ _ (by omega)⟩
      have g2 := setRow_heap wo w.heap.size Tryz.zeroCells152 (blkC (blockT l row)) 152 (0, 0) hg0
      have hC : blkV (blockT l row) = .agg (blkC (blockT l row)) := rfl
      generalize blkC (blockT l row) = C at *
      go_wp2_with (first
        | refine wpList_load_row rfl 152 _ rfl (w.heap.size + 1) rfl 152 C (0, 0) _ hg1 Tryz.underlying152 rfl (by rw [hsz]; exact blk_size) ?_
        | refine wpList_store_row rfl 152 _ _ rfl w.heap.size C rfl rfl 152 _ hg0 (by rw [hsz]; exact blk_size) hzs hone ?_)
      exact bodyPost_ret (v := .agg C) (results_cell_row Tryz.results101 _ _ w.heap.size 152 C (0, 0) _ (by rfl) g2 Tryz.underlying152 rfl (by rw [hsz]; exact blk_size)) rfl ⟨by rw [hC], hbs⟩
end Go.Vir


namespace Go.Vir
open Go Go.RowKit Go.Proofs

def IVs (W : World) (B F : Nat) (D : Nat → Prop) (bl : List (List Int)) (xs : List Value) : Prop :=
  xs.length = bl.length ∧ ∀ (j : Nat) (h : j < bl.length), ∃ g c, xs[j]? = some (.slice (some ⟨g, 0, none⟩) bl[j].length c) ∧ bl[j].length ≤ c ∧ F ≤ g ∧ g < B ∧ ¬ D g ∧ Ints W B (some ⟨g, 0, none⟩) bl[j].length bl[j]
structure TrS (F : Nat) (X : Nat → Prop) (W : World) (T : TrV) (Vi Vb : Value) (xs : List Value) : Prop where
  ri : W.ownsRow F 3 1 Vi T.ix.length (T.ix.map intC)
  rb : W.ownsRow F 37 1 Vb T.bl.length xs
  iv : IVs W W.heap.size F (fun k => X k ∨ Vi.ownBlock = some k ∨ Vb.ownBlock = some k) T.bl xs
  ne : ∀ k, Vi.ownBlock = some k → Vb.ownBlock ≠ some k
  xi : ∀ k, Vi.ownBlock = some k → ¬ X k
  xb : ∀ k, Vb.ownBlock = some k → ¬ X k
  hF : F ≤ W.heap.size
  hX : ∀ k, X k → k < W.heap.size

section
variable {W W' : World} {B B' F : Nat} {D D' X : Nat → Prop} {bl : List (List Int)} {xs : List Value} {T : TrV} {Vi Vb : Value}
theorem IVs.keep (h : IVs W B F D bl xs) (hk : ∀ k, F ≤ k → k < B → ¬ D k → W'.heap[k]? = W.heap[k]?) (hB : B ≤ B') (hD : ∀ k, F ≤ k → k < B → ¬ D k → ¬ D' k) : IVs W' B' F D' bl xs :=
  ⟨h.1, fun j hj => by
    obtain ⟨g, c, e, hc, hF, hg, hd, hi⟩ := h.2 j hj
    refine ⟨g, c, e, hc, hF, by omega, hD g hF hg hd, hi.len, fun hn => ?_⟩
    obtain ⟨b, o, e2, hlt, hcell⟩ := hi.at_ hn
    obtain ⟨rfl, rfl⟩ : g = b ∧ 0 = o := by simpa using e2
    exact ⟨g, 0, rfl, by omega, fun i hii => (World.cell?_of_block (a := ⟨g, 0 + i, none⟩) (hk g hF hg hd)).trans (hcell i hii)⟩⟩
theorem IVs.snoc {x : List Int} {g c : Nat} (h : IVs W B F D bl xs) (hF : F ≤ g) (hg : g < B) (hd : ¬ D g) (hc : x.length ≤ c) (hi : Ints W B (some ⟨g, 0, none⟩) x.length x) : IVs W B F D (bl ++ [x]) (xs ++ [.slice (some ⟨g, 0, none⟩) x.length c]) := by
  refine ⟨by simp [h.1], fun j hj => ?_⟩
  rw [List.length_append, List.length_singleton] at hj
  rcases Nat.lt_or_ge j bl.length with h1 | h1
  · rw [List.getElem?_append_left (by rw [h.1]; exact h1), List.getElem_append_left h1]
    exact h.2 j h1
  · obtain rfl : j = bl.length := by omega
    rw [List.getElem?_append_right (by rw [h.1]; exact Nat.le_refl _), h.1, List.getElem_append_right (Nat.le_refl _)]
    simp only [Nat.sub_self, List.getElem_cons_zero, List.getElem?_cons_zero]
    exact ⟨g, c, rfl, hc, hF, hg, hd, hi⟩
theorem IVs.nil : IVs W B F D [] [] := ⟨rfl, fun j hj => absurd hj (by simp)⟩

theorem TrS.nil (hF : F ≤ W.heap.size) (hX : ∀ k, X k → k < W.heap.size) : TrS F X W { ix := [], bl := [] } (.slice none 0 0) (.slice none 0 0) [] :=
  ⟨World.ownsRow_nil _ _ _ _, World.ownsRow_nil _ _ _ _, IVs.nil, (fun k h => by cases h), (fun k h => by cases h), (fun k h => by cases h), hF, hX⟩
theorem TrS.keep (h : TrS F X W T Vi Vb xs) (hs : W.heap.size ≤ W'.heap.size) (hk : ∀ k, k < W.heap.size → ¬ X k → W'.heap[k]? = W.heap[k]?) : TrS F X W' T Vi Vb xs := by
  have row : ∀ {e : TypeId} {v : Value} {n : Nat} {ys : List Value}, W.ownsRow F e 1 v n ys → (∀ k, v.ownBlock = some k → ¬ X k) → W'.ownsRow F e 1 v n ys := fun hr hx => by
    refine ⟨hr.1, ?_⟩
    rcases hr.2 with hn | ⟨g, cap, cur, rfl, hb, hgg, rest⟩
    · exact .inl hn
    · exact .inr ⟨g, cap, cur, rfl, hb, (hk g (Array.getElem?_eq_some_iff.1 hgg).1 (hx g rfl)).trans hgg, rest⟩
  exact ⟨row h.ri h.xi, row h.rb h.xb, h.iv.keep (fun k _ hlt hd => hk k hlt (fun hx => hd (.inl hx))) hs (fun _ _ _ hd => hd), h.ne, h.xi, h.xb, by have := h.hF; omega, fun k hx => by have := h.hX k hx; omega⟩
theorem TrS.below (h : TrS F X W T Vi Vb xs) (hb : Below W.heap.size W W') : TrS F X W' T Vi Vb xs := h.keep hb.size (fun k hk _ => hb.block k hk)
theorem lt_own {e : TypeId} {v : Value} {n : Nat} {ys : List Value} (h : W.ownsRow F e 1 v n ys) : ∀ k, v.ownBlock = some k → F ≤ k ∧ k < W.heap.size := fun k hk => by
  obtain ⟨h1, o, h2, _⟩ := row_data h k hk
  exact ⟨h1, (Array.getElem?_eq_some_iff.1 h2).1⟩
theorem TrS.addIx {v : Int} {Vi' : Value} (h : TrS F X W T Vi Vb xs) (hr : W'.ownsRow F 3 1 Vi' (T.ix.length + 1) (T.ix.map intC ++ [intC v])) (hg : W.grownBy W' Vi.ownBlock) (hat : Vi'.ownBlock = Vi.ownBlock ∨ ∃ k, W.heap.size ≤ k ∧ Vi'.ownBlock = some k) :
    TrS F X W' { ix := T.ix ++ [v], bl := T.bl } Vi' Vb xs := by
  have hnew : ∀ k, Vi'.ownBlock = some k → Vi.ownBlock = some k ∨ W.heap.size ≤ k := fun k hk => by
    rcases hat with e | ⟨q, hq, e⟩
    · exact .inl (e ▸ hk)
    · rw [e] at hk; obtain rfl := Option.some.inj hk; exact .inr hq
  refine ⟨by simpa using hr, h.rb.kept hg ?_, h.iv.keep (fun k _ hlt hd => hg.block k hlt (fun e => hd (.inr (.inl e.symm)))) hg.size (fun k _ hlt hd hd' => ?_), fun k hk hb => ?_, fun k hk hx => ?_, h.xb, by have := h.hF; have := hg.size; omega, fun k hx => by have := h.hX k hx; have := hg.size; omega⟩
  · rcases hb : Vb.ownBlock with _ | g
    · exact .inl rfl
    · exact .inr fun e => h.ne g e.symm hb
  · rcases hd' with hx | hi | hb
    · exact hd (.inl hx)
    · rcases hnew k hi with h1 | h1
      · exact hd (.inr (.inl h1))
      · omega
    · exact hd (.inr (.inr hb))
  · rcases hnew k hk with h1 | h1
    · exact h.ne k h1 hb
    · have := (lt_own h.rb k hb).2; omega
  · rcases hnew k hk with h1 | h1
    · exact h.xi k h1 hx
    · have := h.hX k hx; omega
theorem TrS.addBl {x : List Int} {Vb' : Value} {g c : Nat} (h : TrS F X W T Vi Vb xs) (hF : F ≤ g) (hgl : g < W.heap.size) (hgx : ¬ X g) (hgi : Vi.ownBlock ≠ some g) (hgb : Vb.ownBlock ≠ some g) (hc : x.length ≤ c) (hi : Ints W W.heap.size (some ⟨g, 0, none⟩) x.length x)
    (hr : W'.ownsRow F 37 1 Vb' (T.bl.length + 1) (xs ++ [.slice (some ⟨g, 0, none⟩) x.length c])) (hg : W.grownBy W' Vb.ownBlock) (hat : Vb'.ownBlock = Vb.ownBlock ∨ ∃ k, W.heap.size ≤ k ∧ Vb'.ownBlock = some k) :
    TrS F X W' { ix := T.ix, bl := T.bl ++ [x] } Vi Vb' (xs ++ [.slice (some ⟨g, 0, none⟩) x.length c]) := by
  have hnew : ∀ k, Vb'.ownBlock = some k → Vb.ownBlock = some k ∨ W.heap.size ≤ k := fun k hk => by
    rcases hat with e | ⟨q, hq, e⟩
    · exact .inl (e ▸ hk)
    · rw [e] at hk; obtain rfl := Option.some.inj hk; exact .inr hq
  have hiv := h.iv.snoc hF hgl (fun hd => by rcases hd with h1 | h1 | h1 <;> contradiction) hc hi
  refine ⟨h.ri.kept hg ?_, by simpa using hr, hiv.keep (fun k _ hlt hd => hg.block k hlt (fun e => hd (.inr (.inr e.symm)))) hg.size (fun k _ hlt hd hd' => ?_), fun k hk hb => ?_, h.xi, fun k hk hx => ?_, by have := h.hF; have := hg.size; omega, fun k hx => by have := h.hX k hx; have := hg.size; omega⟩
  · rcases hb : Vi.ownBlock with _ | q
    · exact .inl rfl
    · exact .inr fun e => h.ne q hb e.symm
  · rcases hd' with hx | hi | hb
    · exact hd (.inl hx)
    · exact hd (.inr (.inl hi))
    · rcases hnew k hb with h1 | h1
      · exact hd (.inr (.inr h1))
      · omega
  · rcases hnew k hb with h1 | h1
    · exact h.ne k hk h1
    · have := (lt_own h.ri k hk).2; omega
  · rcases hnew k hk with h1 | h1
    · exact h.xb k h1 hx
    · have := h.hX k hx; omega
theorem TrS.tri (h : TrS F X W T Vi Vb xs) : ∃ Ai ni ci Ab nb cb, Vi = .slice Ai ni ci ∧ Vb = .slice Ab nb cb ∧ ni ≤ ci ∧ nb ≤ cb ∧ Tri W W.heap.size Ai ni Ab nb T := by
  have hi : ∃ Ai ni ci, Vi = .slice Ai ni ci ∧ ni ≤ ci ∧ Ints W W.heap.size Ai ni T.ix := by
    have hr := h.ri
    rcases hr.2 with ⟨rfl, h0⟩ | ⟨g, cap, cur, rfl, hb, hg, hc, _⟩
    · refine ⟨none, 0, 0, rfl, Nat.le_refl _, ?_⟩
      have : T.ix = [] := List.eq_nil_of_length_eq_zero h0
      rw [this]; exact Ints.nil _ _ _
    · exact ⟨_, _, _, rfl, hc, Ints.of_own (c := cap) hr⟩
  obtain ⟨Ai, ni, ci, e1, k1, q1⟩ := hi
  have hb : ∃ Ab nb cb, Vb = .slice Ab nb cb ∧ nb ≤ cb ∧ Intss W W.heap.size Ab nb T.bl := by
    have hr := h.rb
    rcases hr.2 with ⟨rfl, h0⟩ | ⟨g, cap, cur, rfl, hb, hg, hc, _, _, ht⟩
    · refine ⟨none, 0, 0, rfl, Nat.le_refl _, ?_⟩
      have : T.bl = [] := List.eq_nil_of_length_eq_zero h0
      rw [this]; exact Intss.nil _ _ _
    · refine ⟨_, _, _, rfl, hc, rfl, fun _ => ⟨g, 0, rfl, (Array.getElem?_eq_some_iff.1 hg).1, fun j hj => ?_⟩⟩
      obtain ⟨q, c', e, hc', _, _, _, hi'⟩ := h.iv.2 j hj
      refine ⟨_, _, c', ?_, hi', hc'⟩
      rw [cell_blk hg, Nat.zero_add]
      rw [← ht, List.getElem?_take] at e
      split at e
      · simpa using e
      · cases e
  obtain ⟨Ab, nb, cb, e2, k2, q2⟩ := hb
  exact ⟨Ai, ni, ci, Ab, nb, cb, e1, e2, k1, k2, q1, q2⟩
end

def kvL : List (List Int) → Nat → KB
  | [], _ => []
  | b :: t, i => (b, (i : Int)) :: kvL t (i + 1)
theorem kvL_val (x : List Int) : ∀ (bl : List (List Int)) (i : Nat), valB2 x (kvL bl i) = if x ∈ bl then some ((i + bl.idxOf x : Nat) : Int) else none
  | [], i => rfl
  | b :: t, i => by
    unfold kvL valB2
    by_cases h : x = b
    · subst h; simp
    · rw [if_neg h, kvL_val x t (i + 1)]
      have hb : (b == x) = false := by simpa using fun e => h e.symm
      by_cases hm : x ∈ t
      · rw [if_pos hm, if_pos (List.mem_cons_of_mem _ hm), List.idxOf_cons, hb]
        simp only [cond_false]
        congr 1; omega
      · rw [if_neg hm, if_neg (by simp [h, hm])]
theorem kvL_snoc (x : List Int) : ∀ (bl : List (List Int)) (i : Nat), kvL (bl ++ [x]) i = kvL bl i ++ [(x, ((i + bl.length : Nat) : Int))]
  | [], i => by simp [kvL]
  | b :: t, i => by
    rw [List.cons_append, kvL, kvL_snoc x t (i + 1), kvL, List.cons_append, List.length_cons]
    congr 4; omega
theorem kvL_mem : ∀ (bl : List (List Int)) (i : Nat), ∀ y ∈ kvL bl i, y.1 ∈ bl
  | [], _, y, h => by cases h
  | b :: t, i, y, h => by
    unfold kvL at h
    rcases List.mem_cons.1 h with rfl | h
    · exact List.mem_cons_self ..
    · exact List.mem_cons_of_mem _ (kvL_mem t (i + 1) y h)
end Go.Vir


namespace Go.Vir
open Go

theorem firstB_spec {α : Type} (p : α → Bool) (xs : List α) : (firstB p xs = -1 ∧ ∀ (j : Nat) (h : j < xs.length), p xs[j] = false) ∨ ∃ (k : Nat) (h : k < xs.length), firstB p xs = (k : Int) ∧ p xs[k] = true ∧ ∀ (j : Nat) (h2 : j < k), p (xs[j]'(by omega)) = false := by
  rcases hd : xs.findIdx? p with _ | k
  · rw [List.findIdx?_eq_none_iff] at hd
    have hno : ∀ (j : Nat) (h : j < xs.length), p xs[j] = false := fun j h => hd _ (List.getElem_mem h)
    exact .inl ⟨firstB_none hno, hno⟩
  · obtain ⟨hk, hp, hno⟩ := List.findIdx?_eq_some_iff_getElem.1 hd
    have hno2 : ∀ (j : Nat) (h2 : j < k), p (xs[j]'(by omega)) = false := fun j h2 => by simpa using hno j h2
    exact .inr ⟨k, hk, firstB_hit hk hp hno2, hp, hno2⟩
def inR (r : Int) (x : Rg) : Bool := decide (x.f ≤ r) && decide (r ≤ x.t)
theorem findR_none {l : List Rg} {r : Int} (h : ∀ (j : Nat) (h : j < l.length), inR r l[j] = false) : findR l r = none := by
  unfold findR
  rw [Option.map_eq_none_iff, List.find?_eq_none]
  intro x hx
  obtain ⟨j, hj, rfl⟩ := List.getElem_of_mem hx
  have := h j hj
  unfold inR at this
  simp [this]
theorem findR_hit {l : List Rg} {r : Int} {k : Nat} (hk : k < l.length) (hp : inR r l[k] = true) (hno : ∀ (j : Nat) (h2 : j < k), inR r (l[j]'(by omega)) = false) : findR l r = some l[k].v := by
  unfold findR
  rw [Option.map_eq_some_iff]
  refine ⟨l[k], ?_, rfl⟩
  rw [List.find?_eq_some_iff_getElem]
  refine ⟨hp, k, hk, rfl, fun j hj => ?_⟩
  have := hno j hj
  unfold inR at this
  simp [this]
end Go.Vir


namespace Go.Vir
open Go Go.RowKit Go.Proofs Go.Shelf
attribute [local go_sem] Oper.semAt_some

set_option maxHeartbeats 1000000 in
theorem span_isOne (x : Rg) (w : World) (h : oneR x = true) : Calls Tryz.prog 116 #[.agg #[.int .i64 x.f, .int .i64 x.t, .int .i64 x.v]] w fun e w' => e = .returned (.bool true) ∧ Below w.heap.size w w' := by
  have hq := fun w => rg_eql x x w
  obtain ⟨f, t, v⟩ := x
  rw [oneR_iff] at h
  obtain ⟨h1, h2, h3, h4, h5⟩ := h
  simp only [decide_true] at hq h1 h2 h3 h4 h5
  have m1 : ∀ ts ty w, (Builtin.max_ ts ty #[.int .i64 f, .int .i64 0]).run Tryz.prog w = .ok (.int .i64 f) w := fun ts ty w => by rw [run_max_int2, if_neg (by omega)]
  have m2 : ∀ ts ty w, (Builtin.max_ ts ty #[.int .i64 t, .int .i64 f]).run Tryz.prog w = .ok (.int .i64 t) w := fun ts ty w => by rw [run_max_int2, if_neg (by omega)]
  have m3 : ∀ ts ty w, (Builtin.min_ ts ty #[.int .i64 t, .int .i64 1114111]).run Tryz.prog w = .ok (.int .i64 t) w := fun ts ty w => by
    rw [run_min_int2]; split
    · have : t = 1114111 := by omega
      rw [this]
    · rfl
  have m4 : ∀ ts ty w, (Builtin.max_ ts ty #[.int .i64 v, .int .i64 0]).run Tryz.prog w = .ok (.int .i64 v) w := fun ts ty w => by rw [run_max_int2, if_neg (by omega)]
  have m5 : ∀ ts ty w, (Builtin.min_ ts ty #[.int .i64 v, .int .i64 31]).run Tryz.prog w = .ok (.int .i64 v) w := fun ts ty w => by
    rw [run_min_int2]; split
    · have : v = 31 := by omega
      rw [this]
    · rfl
  clear h1 h2 h3 h4 h5
  go_enter Tryz.func116, Tryz.ntmps116
  go_wp2_with fail
  go_ret
  exact ⟨rfl, by go_grown⟩

set_option maxHeartbeats 2000000 in
theorem span_Right (A : Option Addr) (n c : Nat) (l : List Rg) (w : World) (hx : Rgs w w.heap.size A n l) (hn : n ≤ 1000000) (hrise : riseR (-1) l = true) :
    Calls Tryz.prog 77 #[.slice A n c] w fun e w' => e = .returned (.bool (decide ((n : Int) ≤ 600))) ∧ Below w.heap.size w w' := by
  have hlen := hx.len
  have Hlen := Lib.hid hlen
  clear hlen
  go_enter Tryz.func77, Tryz.ntmps77
  go_wp2_with fail
  go_loopw [3, 5, 8] (fun last _ i wr => ∃ (k : Nat) (z : Int), k ≤ n ∧ i = .int .i64 (k : Int) ∧ last = .int .i64 z ∧ riseR z (l.drop k) = true ∧ Below w.heap.size w wr) (fun _ _ i _ => n - (RowKit.intOf i).toNat)
  case atStart => exact ⟨0, -1, Nat.zero_le _, rfl, rfl, by simpa using hrise, Below.refl _ _⟩
  case round =>
    obtain ⟨k, z, hk, rfl, rfl, hr, hbr⟩ := hrel
    rcases Nat.lt_or_ge k n with hlt | hge
    · obtain ⟨b, o, rfl, hb, hc⟩ := hx.at_ (by omega)
      have hkl : k < l.length := by rw [Hlen.out]; exact hlt
      have u0 := (cellOf hbr hb).trans (hc k hkl).1
      have u1 := (cellOf hbr hb).trans (hc k hkl).2.1
      have u2 := (cellOf hbr hb).trans (hc k hkl).2.2
      rw [List.drop_eq_getElem_cons hkl] at hr
      simp only [riseR, Bool.and_eq_true, decide_eq_true_eq] at hr
      generalize l[k] = x at *
      have h1 := fun W => span_isOne x W hr.1
      have hr2 := hr.2.2
      have hzb : decide (x.f ≤ z) = false := decide_eq_false (by have := hr.2.1; omega)
      obtain ⟨x1, x2, x3⟩ := x
      simp only at u0 u1 u2 h1 hr2 hzb
      have H1 := Lib.hid h1
      have Hr2 := Lib.hid hr2
      clear hr h1 hr2 hc hrise
      go_wp2_with fail
      refine (H1.out _).mono ?_
      rintro e w5 ⟨rfl, hb5⟩
      have hb6 : Below w.heap.size w w5 := (hbr.alloc hbr.size _).trans (hb5.mono (by simp; have := hbr.size; omega))
      have hblk : w5.heap[wr.heap.size]? = some (.cells #[.int .i64 x1, .int .i64 x2, .int .i64 x3] 65 (0, 0)) := (hb5.block _ (by simp)).trans (heap_new rfl)
      have v0 : w5.cell? ⟨wr.heap.size, 0, none⟩ = some (.int .i64 x1) := cell_blk hblk 0
      have v1 : w5.cell? ⟨wr.heap.size, 1, none⟩ = some (.int .i64 x2) := cell_blk hblk 1
      go_wp2_with fail
      go_roundw
      case rel => exact ⟨k + 1, x2, by omega, by go_num, rfl, Hr2.out, hb6⟩
      case measure => simp [RowKit.intOf]; omega
    · clear hr hrise
      go_wp2_with fail
      go_ret
      exact ⟨rfl, hbr⟩

set_option maxHeartbeats 1000000 in
theorem find1 (r : Int) (b : Nat) (x : Rg) (w : World) (hb : w.cell? ⟨b, 0, none⟩ = some (.int .i64 r)) (hlt : b < w.heap.size) :
    Calls Tryz.prog 138 #[encR x, .pointer (some ⟨b, 0, none⟩)] w fun e w' => e = .returned (.bool (inR r x)) ∧ Below w.heap.size w w' := by
  obtain ⟨f, t, v⟩ := x
  unfold inR
  simp only [encR]
  by_cases h1 : f ≤ r
  · have h2 : decide (f ≤ r) = true := decide_eq_true h1
    go_enter Tryz.func138, Tryz.ntmps138
    go_wp2_with fail
    go_ret
    exact ⟨ret_bool (by simp [h1]), by go_grown⟩
  · have h2 : decide (f ≤ r) = false := decide_eq_false h1
    go_enter Tryz.func138, Tryz.ntmps138
    go_wp2_with fail
    go_ret
    exact ⟨ret_bool (by simp), by go_grown⟩

set_option maxHeartbeats 1000000 in
theorem ranges_find (R : Nat) (ro : Nat) (A : Option Addr) (n c : Nat) (l : List Rg) (r : Int) (w : World) (hR : w.cell? ⟨R, ro, none⟩ = some (.slice A n c)) (hRl : R < w.heap.size) (hx : Rgs w w.heap.size A n l) (hn : n ≤ 1000000) :
    Calls Tryz.prog 94 #[.pointer (some ⟨R, ro, none⟩), .int .i64 r] w fun e w' => e = .returned (.tuple #[.int .i64 ((findR l r).getD 0), .bool (findR l r).isSome]) ∧ Below w.heap.size w w' := by
  have hi := fun (W : World) (hW : Below w.heap.size w W) (b : Nat) (hb : b < W.heap.size) (hc : W.cell? ⟨b, 0, none⟩ = some (.int .i64 r)) =>
    indexFunc_rg (p := inR r) (lb := #[.pointer (some ⟨b, 0, none⟩)]) A n c l W (enters_of Tryz.func138 (by kernel_rfl) rfl) ((hx.below hW).more hW.size) (fun x W' hW' => find1 r b x W' ((cellOf hW' hb).trans hc) (Nat.lt_of_lt_of_le hb hW'.size)) hn
  have Hi := Lib.hid hi
  have hlen := hx.len
  rcases firstB_spec (inR r) l with ⟨h1, h2⟩ | ⟨k, hk, h1, h2, h3⟩
  · rw [findR_none h2]
    rw [h1] at Hi
    clear hi hx hlen h1 h2
    go_enter Tryz.func94, Tryz.ntmps94
    go_wp2_with fail
    refine (Hi.out _ (by go_grown) _ (by simp) (by simp)).mono ?_
    rintro e w1 ⟨rfl, hb1⟩
    go_wp2_with fail
    go_ret2
    exact ⟨rfl, Below.trans (by go_grown) (hb1.mono (by simp))⟩
  · obtain ⟨b, o, rfl, hb, hc⟩ := hx.at_ (by omega)
    have u2 := (hc k hk).2.2
    rw [findR_hit hk h2 h3]
    generalize l[k].v = v at *
    rw [h1] at Hi
    have hkn : k < n := by omega
    clear hi hx hlen h1 h2 h3 hc hk
    go_enter Tryz.func94, Tryz.ntmps94
    go_wp2_with fail
    refine (Hi.out _ (by go_grown) _ (by simp) (by simp)).mono ?_
    rintro e w1 ⟨rfl, hb1⟩
    have hbw : Below w.heap.size w w1 := Below.trans (by go_grown) (hb1.mono (by simp))
    have d0 := (cellOf hbw hRl).trans hR
    have d2 := (cellOf hbw hb).trans u2
    go_wp2_with fail
    go_ret2
    exact ⟨rfl, hbw⟩

end Go.Vir


namespace Go.Vir
open Go Go.RowKit Go.Proofs Go.Shelf
attribute [local go_sem] Oper.semAt_some

set_option maxHeartbeats 1000000 in
theorem span_lap (x y : Rg) (w : World) : Calls Tryz.prog 158 #[encR x, encR y] w fun e w' => e = .returned (.bool (lapR x y)) ∧ Below w.heap.size w w' := by
  obtain ⟨f, t, v⟩ := x
  obtain ⟨f2, t2, v2⟩ := y
  unfold lapR
  simp only [encR]
  by_cases h1 : f ≤ t2
  · have h2 : decide (f ≤ t2) = true := decide_eq_true h1
    go_enter Tryz.func158, Tryz.ntmps158
    go_wp2_with fail
    go_ret
    exact ⟨ret_bool (by simp [h1]), by go_grown⟩
  · have h2 : decide (f ≤ t2) = false := decide_eq_false h1
    go_enter Tryz.func158, Tryz.ntmps158
    go_wp2_with fail
    go_ret
    exact ⟨ret_bool (by simp), by go_grown⟩

theorem sorted21 (x y : Rg) (b : Nat) (w : World) (hb : w.heap[b]? = some (.cells #[.int .i64 x.f, .int .i64 x.t, .int .i64 x.v] 65 (0, 0))) :
    Calls Tryz.prog 157 #[encR y, .pointer (some ⟨b, 0, none⟩)] w fun e w' => e = .returned (.bool (lapR x y)) ∧ Below w.heap.size w w' := by
  have hl := fun W => span_lap x y W
  have u0 : w.cell? ⟨b, 0, none⟩ = some (.int .i64 x.f) := cell_blk hb 0
  have u1 : w.cell? ⟨b, 1, none⟩ = some (.int .i64 x.t) := cell_blk hb 1
  have u2 : w.cell? ⟨b, 2, none⟩ = some (.int .i64 x.v) := cell_blk hb 2
  have hbl : b < w.heap.size := (Array.getElem?_eq_some_iff.1 hb).1
  generalize lapR x y = V at *
  obtain ⟨f, t, v⟩ := x
  obtain ⟨f2, t2, v2⟩ := y
  simp only [encR] at *
  have Hl := Lib.hid hl
  clear hl hb
  go_enter Tryz.func157, Tryz.ntmps157
  go_wp2_with fail
  refine (Hl.out _).mono ?_
  rintro e w1 ⟨rfl, hb1⟩
  go_wp2_with fail
  go_ret
  exact ⟨rfl, Below.trans (by go_grown) (hb1.mono (by simp))⟩

theorem sorted1 (i : Nat) (x : Rg) (w : World) (h : oneR x = true) :
    Calls Tryz.prog 155 #[.int .i64 (i : Int), encR x] w fun e w' => e = .returned (.bool false) ∧ Below w.heap.size w w' := by
  have hl := fun W => span_isOne x W h
  obtain ⟨f, t, v⟩ := x
  simp only [encR] at *
  have Hl := Lib.hid hl
  clear hl h
  go_enter Tryz.func155, Tryz.ntmps155
  go_wp2_with fail
  refine (Hl.out _).mono ?_
  rintro e w1 ⟨rfl, hb1⟩
  go_wp2_with fail
  go_ret
  exact ⟨rfl, Below.trans (by go_grown) (hb1.mono (by simp))⟩

set_option maxHeartbeats 1000000 in
theorem sorted2 (i : Nat) (x : Rg) (A : Option Addr) (n c : Nat) (l : List Rg) (b : Nat) (w : World) (hx : Rgs w w.heap.size A n l) (hn : n ≤ 1000000) (hc : n ≤ c) (hi : i < n) (hb : w.cell? ⟨b, 0, none⟩ = some (.slice A n c)) (hbl : b < w.heap.size) (hno : (l.take i).any (lapR x) = false) :
    Calls Tryz.prog 156 #[.int .i64 (i : Int), encR x, .pointer (some ⟨b, 0, none⟩)] w fun e w' => e = .returned (.bool false) ∧ Below w.heap.size w w' := by
  have hw : Below w.heap.size w (w.alloc (.cells #[.int .i64 x.f, .int .i64 x.t, .int .i64 x.v] 65)) := by go_grown
  have hcon := containsFunc_rg (p := lapR x) (lb := #[.pointer (some ⟨w.heap.size, 0, none⟩)]) A i i (l.take i) (w.alloc (.cells #[.int .i64 x.f, .int .i64 x.t, .int .i64 x.v] 65)) (enters_of Tryz.func157 (by kernel_rfl) rfl)
    (((hx.take i (by omega)).below hw).more hw.size) (fun y W hW => sorted21 x y w.heap.size W ((hW.block _ (by simp)).trans (heap_new rfl))) (by omega)
  rw [hno] at hcon
  obtain ⟨f, t, v⟩ := x
  simp only [encR] at *
  have h1 : decide ((c : Int) < (i : Int)) = false := decide_eq_false (by omega)
  have h2 : i ≤ c := by omega
  have Hcon := Lib.hid hcon
  clear hcon hw hno hx
  go_enter Tryz.func156, Tryz.ntmps156
  go_wp2_with fail
  refine Hcon.out.mono ?_
  rintro e w1 ⟨rfl, hb1⟩
  go_wp2_with fail
  go_ret
  exact ⟨rfl, Below.trans (by go_grown) (hb1.mono (by simp))⟩

set_option maxHeartbeats 1000000 in
theorem span_first {g : Nat} {lb : Array Value} (A : Option Addr) (n c : Nat) (l : List Rg) (w : World) (eg : ∀ args w, (callFunc g args).run Tryz.prog w = .ok (.enter g args) w) (hx : Rgs w w.heap.size A n l) (hn : n ≤ 1000000)
    (hs : ∀ (i : Nat) (h : i < l.length) (W : World), Below w.heap.size w W → Calls Tryz.prog g (#[.int .i64 (i : Int), encR l[i]] ++ lb) W fun e W' => e = .returned (.bool false) ∧ Below W.heap.size W W') :
    Calls Tryz.prog 154 #[.func (.func g) #[] lb, .slice A n c] w fun e w' => e = .returned (.int .i64 (-1)) ∧ Below w.heap.size w w' := by
  have hlen := hx.len
  have Hlen := Lib.hid hlen
  have Hs := Lib.hid hs
  clear hlen hs
  go_enter Tryz.func154, Tryz.ntmps154
  go_wp2_with fail
  go_loopw [5, 6, 9] (fun _ _ i wr => ∃ (k : Nat), k ≤ n ∧ i = .int .i64 (k : Int) ∧ Below w.heap.size w wr) (fun _ _ i _ => n - (RowKit.intOf i).toNat)
  case atStart => exact ⟨0, Nat.zero_le _, rfl, Below.refl _ _⟩
  case round =>
    obtain ⟨k, hk, rfl, hbr⟩ := hrel
    rcases Nat.lt_or_ge k n with hlt | hge
    · obtain ⟨b, o, rfl, hb, hc⟩ := hx.at_ (by omega)
      have hkl : k < l.length := by rw [Hlen.out]; exact hlt
      have u0 := (cellOf hbr hb).trans (hc k hkl).1
      have u1 := (cellOf hbr hb).trans (hc k hkl).2.1
      have u2 := (cellOf hbr hb).trans (hc k hkl).2.2
      have h1 := Hs.out k hkl (wr.alloc (.cells #[.int .i64 l[k].f, .int .i64 l[k].t, .int .i64 l[k].v] 65)) (hbr.alloc hbr.size _)
      generalize l[k] = x at *
      obtain ⟨x1, x2, x3⟩ := x
      simp only [encR] at u0 u1 u2 h1
      have H1 := Lib.hid h1
      clear h1 hc
      go_wp2_with fail
      refine H1.out.mono ?_
      rintro e w5 ⟨rfl, hb5⟩
      have hb6 : Below w.heap.size w w5 := (hbr.alloc hbr.size _).trans (hb5.mono (by simp; have := hbr.size; omega))
      go_wp2_with fail
      go_roundw
      case rel => exact ⟨k + 1, by omega, by go_num, hb6⟩
      case measure => simp [RowKit.intOf]; omega
    · go_wp2_with fail
      go_ret
      exact ⟨rfl, hbr⟩
end Go.Vir


namespace Go.Vir
open Go Go.RowKit Go.Proofs Go.Shelf
attribute [local go_sem] Oper.semAt_some

set_option maxRecDepth 100000 in
set_option maxHeartbeats 2000000 in
theorem clone_rgs (A : Option Addr) (n c : Nat) (l : List Rg) (w : World) (hx : Rgs w w.heap.size A n l) (hn : n ≤ 1000000) :
    Calls Tryz.prog 153 #[.slice A n c] w fun e w' => ∃ v, e = .returned v ∧ w'.ownsRow w.heap.size 65 3 v l.length (rgVs l) ∧ Below w.heap.size w w' := by
  have q : ∀ (w : World) (a : Option Addr) (n c n' c' : Nat), (binOp .eql 26 (.slice a n c) (.slice none n' c')).run Tryz.prog w = .ok (.bool a.isNone) w := fun w a n c n' c' => Lib.run_eql_slice_nil w _ _ a n c n' c' Tryz.underlying26
  have hlen := hx.len
  obtain ⟨i0, hi0, hz0, hz1, hz2⟩ := info_parts rg_info
  cases A with
  | none =>
    have h0 : n = 0 := by
      rcases Nat.eq_zero_or_pos n with h | h
      · exact h
      · obtain ⟨b, o, e, _⟩ := hx.at_ h; cases e
    have hl : l = [] := List.eq_nil_of_length_eq_zero (by omega)
    subst hl
    subst h0
    clear hx
    go_enter Tryz.func153, Tryz.ntmps153
    go_wp2_with fail
    go_ret
    exact ⟨_, rfl, World.ownsRow_nil _ _ _ _, Below.refl _ _⟩
  | some ad =>
    have hcells := hx.cells ad rfl
    have hvl := rgVs_len l
    have hone := rgVs_one l
    rw [hlen] at hvl ⊢
    generalize rgVs l = vs at *
    have Hc := Lib.hid hcells
    have Hone := Lib.hid hone
    clear hx hlen hcells hone
    go_enter Tryz.func153, Tryz.ntmps153
    go_wp2_with (at_builtin; refine wpList_append_own _ rfl _ _ 26 rfl w.heap.size 65 i0 (.agg #[.int .i64 0, .int .i64 0, .int .i64 0]) 3 24 Tryz.underlying26 hi0 hz0 hz1 hz2 rfl (by decide) _ _ _ rfl (World.ownsRow_made w #[] 0 (Nat.le_refl _) (Nat.zero_le _) rfl) ad n c vs rfl ?qc1 ?qc2 ?qc3 ?qc4 ?qc5 ?qc6 ?_)
    case qc1 => exact hvl
    case qc2 =>
      intro j u hj
      exact Lib.cell?_alloc_some _ (Hc.out j u hj)
    case qc3 => exact Hone.out
    case qc4 => simp only [maxLen]; omega
    case qc5 => omega
    case qc6 => simp
    intro v' w1 hown hgrow hnil
    go_wp2_with fail
    go_ret
    exact ⟨v', rfl, by simpa using hown, ((Below.refl _ w).alloc (Nat.le_refl _) _).grown hgrow (by simp) (by intro k hk; simp [Value.ownBlock] at hk; omega)⟩
end Go.Vir


namespace Go.Vir
open Go Go.RowKit Go.Proofs
attribute [local go_sem] Oper.semAt_some

theorem zint_info : (Tryz.prog.info? 3).map (fun i => (i.zero, i.size, i.bytes)) = some (some (.int .i64 0), 1, 8) := by kernel_rfl
theorem ints_info : (Tryz.prog.info? 37).map (fun i => (i.zero, i.size, i.bytes)) = some (some (.slice none 0 0), 1, 24) := by kernel_rfl
theorem Ints.cells {W : World} {B n : Nat} {A : Option Addr} {l : List Int} (h : Ints W B A n l) : ∀ ad, A = some ad → ∀ (j : Nat) (u : Value), (l.map intC)[j]? = some u → W.cell? (ad.add j) = some u := by
  intro ad hA j u hj
  have hjl : j < l.length := by have := (List.getElem?_eq_some_iff.1 hj).1; simpa using this
  obtain ⟨b, o, e, _, hc⟩ := h.at_ (by rw [← h.len]; omega)
  rw [hA] at e
  obtain rfl := Option.some.inj e
  have hadd : (Addr.add ⟨b, o, none⟩ j) = ⟨b, o + j, none⟩ := by
    unfold Addr.add
    split <;> simp_all
  rw [hadd, hc j hjl]
  rw [List.getElem?_map, List.getElem?_eq_getElem hjl] at hj
  exact hj
theorem ints_one (l : List Int) : ∀ u ∈ l.map intC, u.oneCell' = true := by
  intro u hu
  rw [List.mem_map] at hu
  obtain ⟨v, _, rfl⟩ := hu
  rfl

set_option maxRecDepth 100000 in
set_option maxHeartbeats 2000000 in
theorem clone_ints (ad : Addr) (n c : Nat) (l : List Int) (w : World) (hx : Ints w w.heap.size (some ad) n l) (hn : n ≤ 1000000) (h0 : 0 < n) :
    Calls Tryz.prog 141 #[.slice (some ad) n c] w fun e w' => ∃ g c', e = .returned (.slice (some ⟨g, 0, none⟩) n c') ∧ n ≤ c' ∧ w.heap.size ≤ g ∧ g < w'.heap.size ∧ Ints w' w'.heap.size (some ⟨g, 0, none⟩) n l ∧ Below w.heap.size w w' := by
  have q : ∀ (w : World) (a : Option Addr) (n c n' c' : Nat), (binOp .eql 37 (.slice a n c) (.slice none n' c')).run Tryz.prog w = .ok (.bool a.isNone) w := fun w a n c n' c' => Lib.run_eql_slice_nil w _ _ a n c n' c' Tryz.underlying37
  have hlen := hx.len
  obtain ⟨i0, hi0, hz0, hz1, hz2⟩ := info_parts zint_info
  have hcells := hx.cells ad rfl
  have hone := ints_one l
  have hvl : (l.map intC).length = n * 1 := by simp [hlen]
  have Hfin : Hid (∀ (v : Value) (w1 : World), w1.ownsRow w.heap.size 3 1 v n (l.map intC) → ∃ g c', v = .slice (some ⟨g, 0, none⟩) n c' ∧ n ≤ c' ∧ w.heap.size ≤ g ∧ g < w1.heap.size ∧ Ints w1 w1.heap.size (some ⟨g, 0, none⟩) n l) := Lib.hid fun v w1 hr => by
    rcases hr.2 with ⟨_, h⟩ | ⟨g, cap, cur, rfl, hb, hg, hc, _⟩
    · omega
    · exact ⟨g, cap, rfl, hc, hb, (Array.getElem?_eq_some_iff.1 hg).1, Ints.of_own (c := cap) hr⟩
  generalize l.map intC = vs at *
  have Hc := Lib.hid hcells
  have Hone := Lib.hid hone
  clear hx hlen hcells hone
  go_enter Tryz.func141, Tryz.ntmps141
  go_wp2_with (at_builtin; refine wpList_append_own _ rfl _ _ 37 rfl w.heap.size 3 i0 (.int .i64 0) 1 8 Tryz.underlying37 hi0 hz0 hz1 hz2 rfl (by decide) _ _ _ rfl (World.ownsRow_made w #[] 0 (Nat.le_refl _) (Nat.zero_le _) rfl) ad n c vs rfl ?qc1 ?qc2 ?qc3 ?qc4 ?qc5 ?qc6 ?_)
  case qc1 => exact hvl
  case qc2 =>
    intro j u hj
    exact Lib.cell?_alloc_some _ (Hc.out j u hj)
  case qc3 => exact Hone.out
  case qc4 => simp only [maxLen]; omega
  case qc5 => omega
  case qc6 => simp
  intro v' w1 hown hgrow hnil
  go_wp2_with fail
  go_ret
  obtain ⟨g, c', rfl, h1, h2, h3, h4⟩ := Hfin.out v' w1 (by simpa using hown)
  exact ⟨g, c', rfl, h1, h2, h3, h4, ((Below.refl _ w).alloc (Nat.le_refl _) _).grown hgrow (by simp) (by intro k hk; simp [Value.ownBlock] at hk; omega)⟩
end Go.Vir

