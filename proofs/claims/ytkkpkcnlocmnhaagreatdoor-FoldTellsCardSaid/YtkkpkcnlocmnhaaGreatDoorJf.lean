/- Joined texts: Srm, FoK, Flt, Fd4, Fd6, RngE. -/
import Derived.Test.YtkkpkcnlocmnhaaGreatDoorJd
import Derived.Test.YtkkpkcnlocmnhaaGreatDoorJe
import Derived.Test.YtkkpkcnlocmnhaaGreatDoorJc
import Derived.Test.YtkkpkcnlocmnhaaGreatDoorJb
import Derived.Test.YtkkpkcnlocmnhaaGreatDoorJa
import Derived.Shelf.SlSortCmp.WholeK
import Derived.Maps.RangeRun
import Derived.Deep.RegionHeld3
import Derived.Deep.RegionLaw
import Derived.Laws.Cover3
import Derived.WalkLawsBesides
import Derived.Deep.Cut
import Derived.BigQuiet
import Derived.Deep.QuietTactic
import Derived.Maps.AppendAt
namespace Go.Vir
open Go Go.RowKit Go.Proofs Go.Shelf Go.Sort

abbrev MpO := { x : Int × (Option Addr × Nat × Nat) // 0 ≤ x.1 ∧ x.1 ≤ 1114111 }
instance mpInh : Inhabited MpO := ⟨⟨(0, none, 0, 0), by decide⟩⟩
def encM (x : MpO) : List Value := [.int .i64 x.1.1, .slice x.1.2.1 x.1.2.2.1 x.1.2.2.2]
def cmpMp (x y : MpO) : Int := x.1.1 - y.1.1
theorem ltM (x y : MpO) : ltOf cmpMp x y = decide (x.1.1 < y.1.1) := by
  unfold ltOf cmpMp
  rw [Bool.eq_iff_iff, decide_eq_true_eq, decide_eq_true_eq]
  omega
theorem swoM : SWO (ltOf cmpMp) where
  irrefl x := by rw [ltM]; simp
  trans x y z h1 h2 := by rw [ltM] at *; simp at *; omega
  ntrans x y z h1 h2 := by rw [ltM] at *; simp at *; omega
theorem encM_len (x : MpO) : (encM x).length = 2 := rfl
theorem encM_one (x : MpO) : ∀ v ∈ encM x, v.oneCell' = true := fun v hv => by
  simp [encM] at hv
  rcases hv with rfl | rfl <;> rfl
theorem flatM_get (d : Array MpO) (j i : Nat) (hj : j < d.size) (hi : i < 2) : (flatK encM 2 d)[j * 2 + i]! = (encM d[j]!)[i]! := by
  rw [get_flatK encM 2 d _ (by omega), show (j * 2 + i) / 2 = j by omega, show (j * 2 + i) % 2 = i by omega]
theorem holds_maps {w : World} {b o : Nat} {d : Array MpO} (hf : ∀ k, w.frozen? ⟨b, k, none⟩ = false)
    (hc : ∀ (j : Nat) (h : j < d.size), w.cell? ⟨b, o + j * 2, none⟩ = some (.int .i64 d[j].1.1) ∧ w.cell? ⟨b, o + j * 2 + 1, none⟩ = some (.slice d[j].1.2.1 d[j].1.2.2.1 d[j].1.2.2.2)) : HoldsK encM 2 w b o d := by
  intro t ht
  rw [size_flatK] at ht
  refine ⟨?_, hf _⟩
  have hj : t / 2 < d.size := by omega
  obtain ⟨c1, c2⟩ := hc (t / 2) hj
  have hd : d[t / 2]! = d[t / 2] := getElem!_pos d _ hj
  simp only [id]
  rcases (by omega : t = t / 2 * 2 + 0 ∨ t = t / 2 * 2 + 1) with e | e
  · rw [e, flatM_get d _ 0 hj (by omega), hd, show o + (t / 2 * 2 + 0) = o + t / 2 * 2 by omega, c1]; rfl
  · rw [e, flatM_get d _ 1 hj (by omega), hd, show o + (t / 2 * 2 + 1) = o + t / 2 * 2 + 1 by omega, c2]; rfl
theorem sortedM_heap {w : World} {g n : Nat} {os : Array Obj} {cur : Array Value} {e : TypeId} (d : Array MpO) (hb : w.heap[g]? = some (.cells cur e (0, 0))) :
    (sortWorldK encM 2 w g 0 n d os).heap[g]? = some (.cells (putCells id 0 (flatK encM 2 d) cur) e (0, 0)) := by
  have hg : g < w.heap.size := (Array.getElem?_eq_some_iff.1 hb).1
  unfold sortWorldK putRowK
  rw [heap_grow_old _ _ (by simpa using hg)]
  simp [putRow, mapBlock, Sort.ahead, Array.getElem?_modify, hb, onCells]
theorem sortedM_grown {w : World} {g n : Nat} {os : Array Obj} (d : Array MpO) : w.grownBy (sortWorldK encM 2 w g 0 n d os) (some g) := by
  unfold sortWorldK putRowK
  refine ⟨rfl, rfl, rfl, by simp, fun k hk hne => ?_⟩
  rw [heap_grow_old _ _ (by simpa using hk)]
  have : g ≠ k := fun e => hne (by rw [e])
  simp [putRow, mapBlock, Sort.ahead, Array.getElem?_modify, this]
theorem sortedM_cells {w : World} {g n : Nat} {os : Array Obj} {cur : Array Value} {e : TypeId} (d : Array MpO) (hb : w.heap[g]? = some (.cells cur e (0, 0))) (hsz : d.size * 2 ≤ cur.size) (j : Nat) (hjd : j < d.size) :
    (sortWorldK encM 2 w g 0 n d os).cell? ⟨g, j * 2, none⟩ = some (.int .i64 d[j].1.1) ∧ (sortWorldK encM 2 w g 0 n d os).cell? ⟨g, j * 2 + 1, none⟩ = some (.slice d[j].1.2.1 d[j].1.2.2.1 d[j].1.2.2.2) := by
  have hh := sortedM_heap (n := n) (os := os) d hb
  have key : ∀ i, i < 2 → (sortWorldK encM 2 w g 0 n d os).cell? ⟨g, j * 2 + i, none⟩ = some ((encM d[j]!)[i]!) := fun i hi => by
    rw [cell_blk hh]
    have h1 : j * 2 + i < cur.size := by omega
    have h2 : j * 2 + i < d.size * 2 := by omega
    simp only [putCells, Array.getElem?_mapIdx, Array.getElem?_eq_getElem h1, Option.map_some, Nat.zero_le, true_and, Nat.zero_add, size_flatK, h2, if_true, Nat.sub_zero, id, flatM_get d j i hjd hi]
  have hd : d[j]! = d[j] := getElem!_pos d _ hjd
  have k0 := key 0 (by omega)
  have k1 := key 1 (by omega)
  rw [hd] at k0 k1
  exact ⟨k0, k1⟩

def MpM (w : World) (r : Nat) (l : List MpV) : Prop :=
  ∃ es ck kvs km, w.heap[r]? = some (.map es ck) ∧ AscW .i64 es kvs ∧ Born es ck ∧ SlK w w.heap.size km kvs ∧ KmL km l
theorem KmL.len {km : KM} {l : List MpV} (h : KmL km l) : km.length = l.length := by
  have hsub : ∀ {a b : List Int}, a.Nodup → (∀ x ∈ a, x ∈ b) → a.length ≤ b.length := fun {a b} ha hab => ha.length_le_of_subset hab
  have hl : (l.map (·.f)).Nodup := by
    rw [List.nodup_iff_pairwise_ne, List.pairwise_map]
    exact h.asc.imp fun h e => by omega
  have key : ∀ q, q ∈ km.map (·.1) ↔ q ∈ l.map (·.f) := fun q => by
    constructor
    · intro hq
      obtain ⟨⟨k, v⟩, hx, rfl⟩ := List.mem_map.1 hq
      have h1 := (valK_mem h.nd).2 hx
      rw [← h.say] at h1
      obtain ⟨y, hy, h2, _⟩ := look_mem h1
      exact List.mem_map.2 ⟨y, hy, h2⟩
    · intro hq
      obtain ⟨y, hy, rfl⟩ := List.mem_map.1 hq
      cases hv : valK y.f km with
      | some v => exact List.mem_map.2 ⟨_, (valK_mem h.nd).1 hv, rfl⟩
      | none =>
        rw [← h.say] at hv
        unfold lookM at hv
        rw [Option.map_eq_none_iff, List.find?_eq_none] at hv
        exact absurd (decide_eq_true rfl) (hv y hy)
  have h1 := hsub h.nd (fun x hx => (key x).1 hx)
  have h2 := hsub hl (fun x hx => (key x).2 hx)
  simp only [List.length_map] at h1 h2
  omega

structure Came (es : Array MapEntry) (seen : Array Nat) (js : List Nat) : Prop where
  nd : js.Nodup
  lt : ∀ j ∈ js, j < es.size
  is : seen.toList = js.map fun j => (es[j]?.map (·.born)).getD 0
theorem Came.nil (es : Array MapEntry) : Came es #[] [] := ⟨List.nodup_nil, (fun j hj => by cases hj), rfl⟩
theorem Came.mem {es : Array MapEntry} {seen : Array Nat} {js : List Nat} (h : Came es seen js) (hb : (es.toList.map (·.born)).Nodup) {j : Nat} (hj : j < es.size) : seen.contains es[j].born = true ↔ j ∈ js := by
  rw [Array.contains_iff_mem, ← Array.mem_toList_iff, h.is, List.mem_map]
  constructor
  · rintro ⟨i, hi, e⟩
    have hil := h.lt i hi
    rw [Array.getElem?_eq_getElem hil] at e
    have e : es[i].born = es[j].born := e
    have hij : i = j := (List.getElem?_inj (show i < (es.toList.map (·.born)).length by simpa using hil) hb).1 (by
      rw [List.getElem?_map, List.getElem?_map, Array.getElem?_toList, Array.getElem?_toList, Array.getElem?_eq_getElem hil, Array.getElem?_eq_getElem hj]
      exact congrArg some e)
    exact hij ▸ hi
  · intro hi
    exact ⟨j, hi, by rw [Array.getElem?_eq_getElem hj]; rfl⟩
theorem Came.step {es : Array MapEntry} {seen : Array Nat} {js : List Nat} (h : Came es seen js) (hb : (es.toList.map (·.born)).Nodup) {e : MapEntry} (he : e ∈ (leftOf es seen).toList) :
    ∃ (j : Nat) (hj : j < es.size), es[j] = e ∧ Came es (seen.push e.born) (js ++ [j]) := by
  obtain ⟨h1, h2⟩ := mem_left he
  obtain ⟨j, hj, rfl⟩ := List.getElem_of_mem h1
  have hj' : j < es.size := by simpa using hj
  refine ⟨j, hj', by simp, ?_⟩
  have hn : j ∉ js := fun hm => by
    have := (h.mem hb hj').2 hm
    simp only [Array.getElem_toList] at h2
    rw [this] at h2
    cases h2
  refine ⟨?_, fun i hi => ?_, ?_⟩
  · rw [List.nodup_append]
    exact ⟨h.nd, by simp, fun a ha b hb e => by simp at hb; subst hb; exact hn (e ▸ ha)⟩
  · rcases List.mem_append.1 hi with hi | hi
    · exact h.lt i hi
    · obtain rfl := List.mem_singleton.1 hi
      exact hj'
  · rw [Array.toList_push, List.map_append, h.is]
    simp [Array.getElem?_eq_getElem hj']
theorem Came.done {es : Array MapEntry} {seen : Array Nat} {js : List Nat} (h : Came es seen js) (hb : (es.toList.map (·.born)).Nodup) (h0 : (leftOf es seen).size = 0) : ∀ j, j < es.size → j ∈ js := fun j hj =>
  (h.mem hb hj).1 (all_seen es seen h0 _ (by simp))
theorem Came.len {es : Array MapEntry} {seen : Array Nat} {js : List Nat} (h : Came es seen js) : js.length ≤ es.size := by
  have := h.nd.length_le_of_subset (l₂ := List.range es.size) (fun j hj => List.mem_range.2 (h.lt j hj))
  simpa using this
end Go.Vir


namespace Go.Vir
open Go Go.RowKit Go.Proofs Go.Shelf
attribute [local go_sem] Oper.semAt_some

def MetM (w : World) (r : Nat) (met : List Int) : Prop :=
  ∃ es ck kvs, w.heap[r]? = some (.map es ck) ∧ AscI .i64 es kvs ∧ ∀ q, valI q kvs = if q ∈ met then some 1 else none
def addC (least : Nat) (says : RecV → Option (Option (List Int) × Option (List Int))) (x : RecV) (met : List Int) (s : List MpV × List MpV) : ((List MpV × List MpV) × List Int) ⊕ Int :=
  if x.fs.length < least then .inr 23 else match says x with
  | none => .inr 21
  | some (a, b) => if x.f ∈ met then .inr 30 else .inl ((putO s.1 x.f a, putO s.2 x.f b), met ++ [x.f])
theorem recsC_cons (least : Nat) (skip : RecV → Bool) (says : RecV → Option (Option (List Int) × Option (List Int))) (x : RecV) (l : List RecV) (met : List Int) (s : List MpV × List MpV) :
    recsC least skip says (x :: l) met s = if skip x = true then recsC least skip says l met s else match addC least says x met s with
      | .inr e => .inr (x.line, e)
      | .inl (s', met') => recsC least skip says l met' s' := by
  rw [recsC]
  unfold addC
  split
  · rfl
  · split
    · rfl
    · cases says x with
      | none => rfl
      | some p =>
        obtain ⟨a, b⟩ := p
        simp only
        split <;> rfl
def AddQ (rl rt rm : Nat) (r : ((List MpV × List MpV) × List Int) ⊕ Int) (w : World) (e : Ending) (w' : World) : Prop :=
  Apart (fun k => k = rl ∨ k = rt ∨ k = rm) w w' ∧ match r with
  | .inr why => e = .returned (.int .i64 why)
  | .inl s => e = .returned (.int .i64 0) ∧ MpM w' rl s.1.1 ∧ MpM w' rt s.1.2 ∧ MetM w' rm s.2

theorem Apart.putObj {O : Nat → Prop} (A : World) {r : Nat} (hr : O r) (o : Obj) : Apart O A (A.putObj r o) :=
  ⟨rfl, rfl, rfl, by simp, fun k _ ho => World.putObj_heap_other (fun e => ho (e ▸ hr))⟩
structure AddS (O : Nat → Prop) (w Z : World) (mb : Nat) (M : Array Value) (xl xf xt : Int) (A' : Option Addr) (n' c' : Nat) (A : Option Addr) (n c : Nat) (a : Bool) (B : Option Addr) (m d : Nat) (b : Bool) : Prop where
  ap : Apart O w Z
  mk0 : Z.heap[mb]? = some (.cells M 48 (0, 0))
  bx : Z.heap[w.heap.size + 1]? = some (.cells #[.int .i64 xl, .int .i64 xf, .int .i64 xt, .slice A' n' c'] 88 (0, 0))
  ba : Z.heap[w.heap.size + 1 + 1]? = some (.cells #[.slice A n c, .bool a] 112 (0, 0))
  bb : Z.heap[w.heap.size + 1 + 1 + 1]? = some (.cells #[.slice B m d, .bool b] 112 (0, 0))
section
variable {O : Nat → Prop} {w Z : World} {mb : Nat} {M : Array Value} {xl xf xt : Int} {A' : Option Addr} {n' c' : Nat} {A : Option Addr} {n c : Nat} {a : Bool} {B : Option Addr} {m d : Nat} {b : Bool}
theorem AddS.drew (h : AddS O w Z mb M xl xf xt A' n' c' A n c a B m d b) : AddS O w Z.drew mb M xl xf xt A' n' c' A n c a B m d b := ⟨h.ap.trans (Apart.drew Z), h.mk0, h.bx, h.ba, h.bb⟩
theorem AddS.putObj {r : Nat} {o : Obj} {es : Array MapEntry} {ck : Nat} (h : AddS O w Z mb M xl xf xt A' n' c' A n c a B m d b) (hr : O r) (hm : Z.heap[r]? = some (.map es ck)) : AddS O w (Z.putObj r o) mb M xl xf xt A' n' c' A n c a B m d b := by
  have key : ∀ {k : Nat} {cs : Array Value} {t : TypeId} {q : Nat × Nat}, Z.heap[k]? = some (.cells cs t q) → (Z.putObj r o).heap[k]? = some (.cells cs t q) := fun {k cs t q} e =>
    (World.putObj_heap_other (fun e2 => by subst e2; rw [hm] at e; cases e)).trans e
  exact ⟨h.ap.trans (Apart.putObj Z hr o), key h.mk0, key h.bx, key h.ba, key h.bb⟩
end
theorem Ints.ckS {A B : World} {B1 n : Nat} {D : Option Addr} {l : List Int} (h : Ints A B1 D n l) (k : CK A B) : Ints B B.heap.size D n l :=
  ⟨h.len, fun hn => let ⟨b, o, e, _, hc⟩ := h.at_ hn; ⟨b, o, e, k.lt (hc 0 (by rw [h.len]; exact hn)), fun j hj => k.cell (hc j hj)⟩⟩
theorem SlK.ckS {A B : World} {B1 : Nat} (k : CK A B) : ∀ {km : KM} {kvs : KW}, SlK A B1 km kvs → SlK B B.heap.size km kvs
  | [], _, h => h
  | _ :: _, _, ⟨D, n, c, t, e, h1, h2, h3⟩ => ⟨D, n, c, t, e, h1, h2.ckS k, h3.ckS k⟩
theorem MpM_same {W2 Z : World} {r : Nat} {es : Array MapEntry} {ck : Nat} {kvs : KW} {km : KM} {l : List MpV} (h : AscW .i64 es kvs ∧ Born es ck ∧ SlK W2 W2.heap.size km kvs ∧ KmL km l) (hr : Z.heap[r]? = some (.map es ck)) (hck : CK W2 Z) : MpM Z r l :=
  ⟨es, ck, kvs, km, hr, h.1, h.2.1, h.2.2.1.ckS hck, h.2.2.2⟩
theorem MpM_put {W2 Z : World} {r : Nat} {es es' : Array MapEntry} {ck ck' : Nat} {kvs : KW} {km : KM} {l : List MpV} {x : Int} {la : List Int} {A : Option Addr} {n c : Nat} (h : AscW .i64 es kvs ∧ Born es ck ∧ SlK W2 W2.heap.size km kvs ∧ KmL km l) (hr : Z.heap[r]? = some (.map es' ck'))
    (ha : AscW .i64 es' (updW x (.slice A n c) kvs)) (hb : Born es ck → Born es' ck') (hck : CK W2 Z) (hv : n ≤ c ∧ Ints W2 W2.heap.size A n la) : MpM Z r (putO l x (some la)) :=
  ⟨es', ck', _, updK x la km, hr, ha, hb h.2.1, (h.2.2.1.ckS hck).upd hv.1 (hv.2.ckS hck), h.2.2.2.put x la⟩
theorem MetM_snoc {Z : World} {r : Nat} {es : Array MapEntry} {ck : Nat} {kvs : KI} {met : List Int} {x : Int} (hr : Z.heap[r]? = some (.map es ck)) (ha : AscI .i64 es (updI x 1 kvs)) (hm : ∀ q, valI q kvs = if q ∈ met then some 1 else none) : MetM Z r (met ++ [x]) := by
  refine ⟨es, ck, _, hr, ha, fun q => ?_⟩
  rw [valI_upd, hm]
  by_cases h : x = q
  · subst h; simp
  · have h2 : ¬ q = x := fun e => h e.symm
    simp [h, h2]

set_option maxRecDepth 100000 in
set_option maxHeartbeats 8000000 in
theorem maker_add (mb rl rt rm : Nat) (x0 x1 x2 x3 x4 x5 : Value) (k : Int) (least g h : Nat) (says : RecV → Option (Option (List Int) × Option (List Int))) (p : RecP) (lo ti : List MpV) (met : List Int) (w : World)
    (eg : ∀ args w, (callFunc h args).run Tryz.prog w = .ok (.enter h args) w)
    (hmb : w.heap[mb]? = some (.cells #[x0, x1, x2, x3, x4, x5, .map (some rl), .map (some rt)] 48 (0, 0))) (hlo : MpM w rl lo) (hti : MpM w rt ti) (hme : MetM w rm met) (hne : rl ≠ rt ∧ rl ≠ rm ∧ rt ≠ rm) (hlen : p.1.fs.length = p.2.2.1) (hn : p.2.2.1 ≤ 1000000)
    (hsay : least ≤ p.2.2.1 → ∀ W, CK w W → w.heap.size ≤ W.heap.size → Calls Tryz.prog h #[pvR p] W fun e w' => SaidP (says p.1) e w' ∧ Below W.heap.size W w') :
    Calls Tryz.prog 74 #[.pointer (some ⟨mb, 0, none⟩), filVal k (least : Int) g h, pvR p, .map (some rm)] w fun e w' => AddQ rl rt rm (addC least says p.1 met (lo, ti)) w e w' := by
  obtain ⟨es1, ck1, kv1, km1, hl1, hl2, hl3, hl4, hl5⟩ := hlo
  obtain ⟨es2, ck2, kv2, km2, ht1, ht2, ht3, ht4, ht5⟩ := hti
  obtain ⟨es3, ck3, kv3, hm1, hm2, hm3⟩ := hme
  obtain ⟨⟨xl, xf, xt, fs⟩, A', n', c'⟩ := p
  unfold pvR recVal at hsay
  unfold pvR recVal filVal
  simp only at hlen hn hsay
  simp only
  have hR : addC least says { line := xl, f := xf, t := xt, fs := fs } met (lo, ti) = if n' < least then .inr 23 else match says { line := xl, f := xf, t := xt, fs := fs } with
      | none => .inr 21
      | some (a, b) => if xf ∈ met then .inr 30 else .inl ((putO lo xf a, putO ti xf b), met ++ [xf]) := by unfold addC; rw [← hlen]
  generalize addC least says { line := xl, f := xf, t := xt, fs := fs } met (lo, ti) = R at *
  obtain ⟨W0, hW0⟩ : ∃ W0, W0 = (((w.alloc (.cells #[.int .i64 k, .int .i64 (least : Int), .func (.func g) #[] #[], .func (.func h) #[] #[]] 75)).alloc (.cells #[.int .i64 xl, .int .i64 xf, .int .i64 xt, .slice A' n' c'] 88)).alloc (.cells #[.slice none 0 0, .bool false] 112)).alloc (.cells #[.slice none 0 0, .bool false] 112) := ⟨_, rfl⟩
  have hbw : Below w.heap.size w W0 := by rw [hW0]; go_grown
  have hs0 : w.heap.size + 1 + 1 + 1 + 1 = W0.heap.size := by rw [hW0]; simp
  have hf0 : W0.heap[w.heap.size]? = some (.cells #[.int .i64 k, .int .i64 (least : Int), .func (.func g) #[] #[], .func (.func h) #[] #[]] 75 (0, 0)) := by rw [hW0]; exact (heap_old (by simp <;> omega)).trans ((heap_old (by simp <;> omega)).trans ((heap_old (by simp)).trans (heap_new rfl)))
  have hx0 : W0.heap[w.heap.size + 1]? = some (.cells #[.int .i64 xl, .int .i64 xf, .int .i64 xt, .slice A' n' c'] 88 (0, 0)) := by rw [hW0]; exact (heap_old (by simp <;> omega)).trans ((heap_old (by simp)).trans (heap_new (by simp)))
  have ha0 : W0.heap[w.heap.size + 1 + 1]? = some (.cells #[.slice none 0 0, .bool false] 112 (0, 0)) := by rw [hW0]; exact (heap_old (by simp)).trans (heap_new (by simp))
  have hb0 : W0.heap[w.heap.size + 1 + 1 + 1]? = some (.cells #[.slice none 0 0, .bool false] 112 (0, 0)) := by rw [hW0]; exact heap_new (by simp)
  obtain ⟨f0, f1, f2, f3⟩ := cells4 hf0
  obtain ⟨v0, v1, v2, v3⟩ := cells4 hx0
  have Hf := Lib.hid hf0
  have Hx := Lib.hid hx0
  have Ha := Lib.hid ha0
  have Hb := Lib.hid hb0
  have Hbw := Lib.hid hbw
  have HR := Lib.hid hR
  have Hsay := Lib.hid hsay
  have Hmb := Lib.hid hmb
  have Hl0 := Lib.hid (And.intro hl2 (And.intro hl3 (And.intro hl4 hl5)))
  have Ht0 := Lib.hid (And.intro ht2 (And.intro ht3 (And.intro ht4 ht5)))
  have Hl1 := Lib.hid hl1
  have Ht1 := Lib.hid ht1
  have Hm1 := Lib.hid hm1
  have Hm2 := Lib.hid hm2
  have Hm0 := Lib.hid hm3
  clear hf0 hx0 ha0 hb0 hbw hR hsay hmb hl1 hl2 hl3 hl4 hl5 ht1 ht2 ht3 ht4 ht5 hm1 hm2 hm3
  by_cases hln : n' < least
  · have e1 : decide ((n' : Int) < (least : Int)) = true := decide_eq_true (by omega)
    have Hr := Lib.hid (show R = .inr 23 by rw [HR.out, if_pos hln])
    go_enter Tryz.func74, Tryz.ntmps74
    go_wp2_with fail
    refine wp_scope_once ?_
    generalize hQl : landed _ _ _ = Ql
    go_upto_region 4 with fail
    rw [← hW0]
    clear hW0
    go_wp2_with fail
    go_step3
    go_simp
    subst hQl
    refine landed_goto (by rfl) ?_
    go_wp2_with fail
    rw [Exit.noGoto_ret]
    go_ret
    rw [Hr.out]
    exact ⟨Apart.below Hbw.out, rfl⟩
  have e1 : decide ((n' : Int) < (least : Int)) = false := decide_eq_false (by omega)
  have Hc := Lib.hid (Hsay.out (by omega) W0 (CK.below Hbw.out) Hbw.out.size)
  have hR2 := HR.out
  rw [if_neg hln] at hR2
  have HR2 := Lib.hid hR2
  clear Hsay HR hR2
  go_enter Tryz.func74, Tryz.ntmps74
  go_wp2_with fail
  refine wp_scope_once ?_
  generalize hQl : landed _ _ _ = Ql
  go_upto_region 4 with fail
  rw [← hW0]
  clear hW0
  go_wp2_with fail
  refine Hc.out.mono ?_
  clear Hc f0 f1 f2 f3 v0 v1 v2 v3
  rintro e w1 ⟨⟨A, n, c, a, B, m, d, b, rfl, hv⟩, hb1⟩
  have hbw1 := Hbw.out.trans (hb1.mono Hbw.out.size)
  have hx1 := (hb1.block _ (by omega)).trans Hx.out
  have ha1 := (hb1.block _ (by omega)).trans Ha.out
  have hb1' := (hb1.block _ (by omega)).trans Hb.out
  have hsz1 := hb1.size
  obtain ⟨i0, i1⟩ := cellsP ha1
  have s0 := frozen_blk ha1 0
  have s1 := frozen_blk ha1 1
  obtain ⟨n0, n1⟩ := cellsP hb1'
  have t0 := frozen_blk hb1' 0
  have t1 := frozen_blk hb1' 1
  obtain ⟨g1, g2, g3, g4⟩ := two_stored (.slice A n c) (.bool a) ha1 hbw1 (show w.heap.size ≤ w.heap.size + 1 + 1 by omega)
  obtain ⟨U1, hU1⟩ : ∃ U1, U1 = (w1.setCell ⟨w.heap.size + 1 + 1, 0, none⟩ (.slice A n c)).setCell ⟨w.heap.size + 1 + 1, 1, none⟩ (.bool a) := ⟨_, rfl⟩
  rw [← hU1] at g1 g2 g3 g4
  have hb2' := (g3 _ (show w.heap.size + 1 + 1 + 1 ≠ w.heap.size + 1 + 1 by omega)).trans hb1'
  obtain ⟨k1, k2, k3, k4⟩ := two_stored (.slice B m d) (.bool b) hb2' g2 (show w.heap.size ≤ w.heap.size + 1 + 1 + 1 by omega)
  obtain ⟨W2, hW2⟩ : ∃ W2, W2 = (U1.setCell ⟨w.heap.size + 1 + 1 + 1, 0, none⟩ (.slice B m d)).setCell ⟨w.heap.size + 1 + 1 + 1, 1, none⟩ (.bool b) := ⟨_, rfl⟩
  rw [← hW2] at k1 k2 k3 k4
  have hk2 : ∀ k, ¬ (k = w.heap.size + 1 + 1 ∨ k = w.heap.size + 1 + 1 + 1) → W2.heap[k]? = w1.heap[k]? := fun k hk => (k3 k (fun e => hk (.inr e))).trans (g3 k (fun e => hk (.inl e)))
  have hO2 : ∀ k, (k = w.heap.size + 1 + 1 ∨ k = w.heap.size + 1 + 1 + 1) → ∃ u v t, w1.heap[k]? = some (.cells #[u, v] t (0, 0)) ∧ ∀ i, u ≠ .int .i64 i ∧ v ≠ .int .i64 i := fun k hk => by
    rcases hk with rfl | rfl
    · exact ⟨_, _, _, ha1, said_ne _ _ _ _⟩
    · exact ⟨_, _, _, hb1', said_ne _ _ _ _⟩
  have hsz2 : w1.heap.size ≤ W2.heap.size := by omega
  have hlow : ∀ k, k < w.heap.size → W2.heap[k]? = w.heap[k]? := fun k hk => k2.block k hk
  have HS0 := Lib.hid (⟨Apart.below k2, (hlow mb (Array.getElem?_eq_some_iff.1 Hmb.out).1).trans Hmb.out, (hk2 _ (by omega)).trans hx1, (k3 _ (by omega)).trans g1, k1⟩ : AddS (fun k => k = rl ∨ k = rt ∨ k = rm) w W2 mb #[x0, x1, x2, x3, x4, x5, .map (some rl), .map (some rt)] xl xf xt A' n' c' A n c a B m d b)
  have hck2 : CK w W2 := CK.below k2
  have Hl := Lib.hid ((hlow rl (Array.getElem?_eq_some_iff.1 Hl1.out).1).trans Hl1.out)
  have Ht := Lib.hid ((hlow rt (Array.getElem?_eq_some_iff.1 Ht1.out).1).trans Ht1.out)
  have Hm := Lib.hid ((hlow rm (Array.getElem?_eq_some_iff.1 Hm1.out).1).trans Hm1.out)
  have Hl0 := Lib.hid (And.intro Hl0.out.1 (And.intro Hl0.out.2.1 (And.intro (Hl0.out.2.2.1.ck hck2 k2.size) Hl0.out.2.2.2)))
  have Ht0 := Lib.hid (And.intro Ht0.out.1 (And.intro Ht0.out.2.1 (And.intro (Ht0.out.2.2.1.ck hck2 k2.size) Ht0.out.2.2.2)))
  have HU1 := Lib.hid hU1
  have HW2 := Lib.hid hW2
  have Hv := Lib.hid hv
  have Hk2 := Lib.hid hk2
  have HO2 := Lib.hid hO2
  clear hU1 hW2 g1 g2 g3 g4 k1 k2 k3 k4 hb2' hv hk2 hO2 hlow hck2 hx1 ha1 hb1' hbw1 hb1 Hf Hx Ha Hb Hbw hs0 Hl1 Ht1 Hm1
  generalize says { line := xl, f := xf, t := xt, fs := fs } = sy at *
  rcases sy with _ | ⟨pa, pb⟩
  · have Hr := Lib.hid (show R = .inr 21 from HR2.out)
    go_wp2_with fail
    go_step3
    go_simp
    subst hQl
    refine landed_goto (by rfl) ?_
    go_wp2_with fail
    rw [Exit.noGoto_ret]
    go_ret
    rw [← HU1.out, ← HW2.out, Hr.out]
    exact ⟨HS0.out.ap, rfl⟩
  have hv := Hv.out (pa, pb) rfl
  have Hva := Lib.hid (show SayV W2 A n c a pa from ⟨hv.1.1, fun l h => ⟨(hv.1.2 l h).1, (hv.1.2 l h).2.keptC Hk2.out HO2.out hsz2⟩⟩)
  have Hvb := Lib.hid (show SayV W2 B m d b pb from ⟨hv.2.1, fun l h => ⟨(hv.2.2 l h).1, (hv.2.2 l h).2.keptC Hk2.out HO2.out hsz2⟩⟩)
  have hlk : (Instr.lookup 106 (.map (some rm)) (.int .i64 xf) false).run Tryz.prog W2 = .ok (.int .i64 ((if xf ∈ met then some (1 : Int) else none).getD 0)) W2 := by
    have h := run_look_ki (P := Tryz.prog) (k := xf) false Tryz.underlying106 Tryz.underlying3 (Tryz.zeroValue3 _) Hm.out Hm2.out
    rw [look_valI, Hm0.out] at h
    exact h
  clear hv Hv Hk2 HO2 hsz2 hsz1
  by_cases hmem : xf ∈ met
  · have Hr := Lib.hid (show R = .inr 30 by rw [HR2.out]; exact if_pos hmem)
    rw [if_pos hmem] at hlk
    clear hmem
    have hlk : (Instr.lookup 106 (.map (some rm)) (.int .i64 xf) false).run Tryz.prog W2 = .ok (.int .i64 1) W2 := hlk
    go_upto_region 7 with fail
    rw [← HU1.out, ← HW2.out]
    clear i0 i1 s0 s1 n0 n1 t0 t1
    have v1 : W2.cell? ⟨w.heap.size + 1, 1, none⟩ = some (.int .i64 xf) := cell_blk HS0.out.bx 1
    go_wp2_with fail
    go_step3
    go_simp
    subst hQl
    refine landed_goto (by rfl) ?_
    go_wp2_with fail
    rw [Exit.noGoto_ret]
    go_ret
    rw [Hr.out]
    exact ⟨HS0.out.ap, rfl⟩
  · have Hr := Lib.hid (show R = .inl ((putO lo xf pa, putO ti xf pb), met ++ [xf]) by rw [HR2.out]; exact if_neg hmem)
    rw [if_neg hmem] at hlk
    clear hmem
    have hlk : (Instr.lookup 106 (.map (some rm)) (.int .i64 xf) false).run Tryz.prog W2 = .ok (.int .i64 0) W2 := hlk
    go_upto_region 7 with fail
    rw [← HU1.out, ← HW2.out]
    clear i0 i1 s0 s1 n0 n1 t0 t1
    have v1 : W2.cell? ⟨w.heap.size + 1, 1, none⟩ = some (.int .i64 xf) := cell_blk HS0.out.bx 1
    go_upto_region 11 with (at_mapUpdate; refine wpList_upd_ki (kd := .i64) (k := xf) (v := 1) rfl rfl rfl rfl rfl Tryz.underlying106 Tryz.underlying3 Hm.out Hm2.out ?_; intro es4 ck4 hasc4)
    have HCK := Lib.hid (CK.putObj (o' := .map es4 ck4) Hm.out (fun _ _ _ e => by cases e))
    have HS := Lib.hid (HS0.out.putObj (r := rm) (o := .map es4 ck4) (.inr (.inr rfl)) Hm.out)
    have HA4 := Lib.hid hasc4
    have Hl := Lib.hid ((World.putObj_heap_other (o := .map es4 ck4) (show rl ≠ rm from hne.2.1)).trans Hl.out)
    have Ht := Lib.hid ((World.putObj_heap_other (o := .map es4 ck4) (show rt ≠ rm from hne.2.2)).trans Ht.out)
    have Hm := Lib.hid (World.putObj_heap_same (o := .map es4 ck4) (Array.getElem?_eq_some_iff.1 Hm.out).1)
    have z0 : (W2.putObj rm (.map es4 ck4)).cell? ⟨w.heap.size + 1 + 1, 1, none⟩ = some (.bool a) := cell_blk HS.out.ba 1
    clear hasc4 HS0 v1 hlk
    generalize hW3 : W2.putObj rm (.map es4 ck4) = W3 at *
    clear hW3
    rcases a with _ | _
    · obtain rfl : pa = none := Option.isSome_eq_false_iff.1 Hva.out.1.symm |> Option.isNone_iff_eq_none.1
      have z1 : W3.cell? ⟨w.heap.size + 1 + 1 + 1, 1, none⟩ = some (.bool b) := cell_blk HS.out.bb 1
      rcases b with _ | _
      · obtain rfl : pb = none := Option.isSome_eq_false_iff.1 Hvb.out.1.symm |> Option.isNone_iff_eq_none.1
        go_wp2_with fail
        subst hQl
        rw [landed_ret]
        go_ret
        rw [Hr.out]
        exact ⟨HS.out.ap, rfl, MpM_same Hl0.out Hl.out HCK.out, MpM_same Ht0.out Ht.out HCK.out, MetM_snoc Hm.out HA4.out Hm0.out⟩
      · obtain ⟨lb, rfl⟩ := Option.isSome_iff_exists.1 Hvb.out.1.symm
        have HvB := Lib.hid (Hvb.out.2 lb rfl)
        clear Hvb
        have u0 : W3.cell? ⟨mb, 7, none⟩ = some (.map (some rt)) := cell_blk HS.out.mk0 7
        have u1 : W3.cell? ⟨w.heap.size + 1, 1, none⟩ = some (.int .i64 xf) := cell_blk HS.out.bx 1
        have u2 : W3.cell? ⟨w.heap.size + 1 + 1 + 1, 0, none⟩ = some (.slice B m d) := cell_blk HS.out.bb 0
        go_upto_region 14 with fail
        refine wp_region_noPanic ?_
        refine wp_region_held_drew (S := (fun V => V.cell? ⟨mb, 7, none⟩ = some (.map (some rt)) ∧ V.cell? ⟨w.heap.size + 1, 1, none⟩ = some (.int .i64 xf) ∧ V.cell? ⟨w.heap.size + 1 + 1 + 1, 0, none⟩ = some (.slice B m d))) (by kernel_rfl) ⟨u0, u1, u2⟩ (fun hHeld => ?_)
        have HSd := Lib.hid (HS.out.drew)
        have Hl := Lib.hid (show W3.drew.heap[rl]? = some (.map es1 ck1) from Hl.out)
        have Ht := Lib.hid (show W3.drew.heap[rt]? = some (.map es2 ck2) from Ht.out)
        have Hm := Lib.hid (show W3.drew.heap[rm]? = some (.map es4 ck4) from Hm.out)
        have HCK := Lib.hid (show CK W2 W3.drew from HCK.out)
        clear u0 u1 u2 HS
        generalize W3.drew = W3n at *
        obtain ⟨es2', ck2', hup, ha', hbn'⟩ := run_upd_kw (P := Tryz.prog) (t := 46) (k := xf) (.slice B m d) Tryz.underlying46 Tryz.underlying3 Ht.out Ht0.out.1
        have HS := Lib.hid (HSd.out.putObj (r := rt) (o := .map es2' ck2') (.inr (.inl rfl)) Ht.out)
        have Hup := Lib.hid (show (Instr.mapUpdate 46 (.map (some rt)) (.int .i64 xf) (.slice B m d)).run Tryz.prog W3n = .ok () (W3n.putObj rt (.map es2' ck2')) from hup)
        have Hs2 := Lib.hid (show (W3n.putObj rt (.map es2' ck2')).cell? ⟨mb, 7, none⟩ = some (.map (some rt)) ∧ (W3n.putObj rt (.map es2' ck2')).cell? ⟨w.heap.size + 1, 1, none⟩ = some (.int .i64 xf) ∧ (W3n.putObj rt (.map es2' ck2')).cell? ⟨w.heap.size + 1 + 1 + 1, 0, none⟩ = some (.slice B m d) from ⟨cell_blk HS.out.mk0 7, cell_blk HS.out.bx 1, cell_blk HS.out.bb 0⟩)
        have HArt := Lib.hid ha'
        have HBrt := Lib.hid hbn'
        have Hl2 := Lib.hid (show (W3n.putObj rt (.map es2' ck2')).heap[rl]? = some (.map es1 ck1) from (World.putObj_heap_other hne.1).trans Hl.out)
        have Ht2 := Lib.hid (show (W3n.putObj rt (.map es2' ck2')).heap[rt]? = some (.map es2' ck2') from World.putObj_heap_same (Array.getElem?_eq_some_iff.1 Ht.out).1)
        have Hm2 := Lib.hid (show (W3n.putObj rt (.map es2' ck2')).heap[rm]? = some (.map es4 ck4) from (World.putObj_heap_other (Ne.symm hne.2.2)).trans Hm.out)
        have HCK2 := Lib.hid (HCK.out.trans (CK.putObj (o' := .map es2' ck2') Ht.out (fun _ _ _ e => by cases e)))
        clear hup ha' hbn' HSd Hl Ht Hm HCK
        refine wpAnyH_take (i := 0) (v := .pointer (some ⟨mb, 0, none⟩)) rfl (by kernel_rfl) (by kernel_rfl) (by kernel_rfl) (fun _ _ _ h => h) (.inl ⟨by rfl, fun V hV => by obtain ⟨c0, c1, c2⟩ := hV; go_simp⟩) hHeld ?_
        try simp only [Act.put, qB, qC, qE, qF, qG]
        refine wpAnyH_take (i := 1) (v := .pointer (some ⟨mb, 0, none⟩)) rfl (by kernel_rfl) (by kernel_rfl) (by kernel_rfl) (fun _ _ _ h => h) (.inl ⟨by rfl, fun V hV => by obtain ⟨c0, c1, c2⟩ := hV; go_simp⟩) hHeld ?_
        try simp only [Act.put, qB, qC, qD, qE, qF, qG]
        refine wpAnyH_take (i := 2) (v := .pointer (some ⟨mb, 7, none⟩)) rfl (by kernel_rfl) (by kernel_rfl) (by kernel_rfl) (fun _ _ _ h => h) (.inl ⟨by rfl, fun V hV => by obtain ⟨c0, c1, c2⟩ := hV; go_simp⟩) hHeld ?_
        try simp only [Act.put, qB, qC, qD, qE, qF, qG]
        refine wpAnyH_take (i := 3) (v := .map (some rt)) rfl (by kernel_rfl) (by kernel_rfl) (by kernel_rfl) (fun _ _ _ h => h) (.inl ⟨by rfl, fun V hV => by obtain ⟨c0, c1, c2⟩ := hV; go_simp⟩) hHeld ?_
        try simp only [Act.put, qB, qC, qD, qE, qF, qG]
        refine wpAnyH_take (i := 4) (v := .pointer (some ⟨w.heap.size + 1, 1, none⟩)) rfl (by kernel_rfl) (by kernel_rfl) (by kernel_rfl) (fun _ _ _ h => h) (.inl ⟨by rfl, fun V hV => by obtain ⟨c0, c1, c2⟩ := hV; go_simp⟩) hHeld ?_
        try simp only [Act.put, qB, qC, qD, qE, qF, qG]
        refine wpAnyH_take (i := 5) (v := .int .i64 xf) rfl (by kernel_rfl) (by kernel_rfl) (by kernel_rfl) (fun _ _ _ h => h) (.inl ⟨by rfl, fun V hV => by obtain ⟨c0, c1, c2⟩ := hV; go_simp⟩) hHeld ?_
        try simp only [Act.put, qB, qC, qD, qE, qF, qG]
        refine wpAnyH_take (i := 6) (v := .pointer (some ⟨w.heap.size + 1 + 1 + 1, 0, none⟩)) rfl (by kernel_rfl) (by kernel_rfl) (by kernel_rfl) (fun _ _ _ h => h) (.inl ⟨by rfl, fun V hV => by obtain ⟨c0, c1, c2⟩ := hV; go_simp⟩) hHeld ?_
        try simp only [Act.put, qB, qC, qD, qE, qF, qG]
        refine wpAnyH_take (i := 7) (v := .slice B m d) rfl (by kernel_rfl) (by kernel_rfl) (by kernel_rfl) (fun _ _ _ h => h) (.inl ⟨by rfl, fun V hV => by obtain ⟨c0, c1, c2⟩ := hV; go_simp⟩) hHeld ?_
        try simp only [Act.put, qB, qC, qD, qE, qF, qG]
        refine wpAnyH_ready (rs := [8]) (by kernel_rfl) (by simp) ?_
        refine AllReadyH.cons rfl (fun K hK => ?_) AllReadyH.nil
        go_simp
        rw [Hup.out]
        simp only [Result.andThen_ok]
        refine hK.out _ _ Hs2.out (fun hHeld => ?_)
        clear hK K
        refine wpAnyH_done (by kernel_rfl) ?_ _
        refine NoPanic.normal ?_
        generalize hZ : W3n.putObj rt (.map es2' ck2') = Zrt at *
        clear hZ Hup Hs2
        go_wp2_with fail
        subst hQl
        rw [landed_ret]
        go_ret
        rw [Hr.out]
        exact ⟨HS.out.ap, rfl, MpM_same Hl0.out Hl2.out HCK2.out, MpM_put Ht0.out Ht2.out HArt.out HBrt.out HCK2.out HvB.out, MetM_snoc Hm2.out HA4.out Hm0.out⟩
    · obtain ⟨la, rfl⟩ := Option.isSome_iff_exists.1 Hva.out.1.symm
      have HvA := Lib.hid (Hva.out.2 la rfl)
      clear Hva
      have u0 : W3.cell? ⟨mb, 6, none⟩ = some (.map (some rl)) := cell_blk HS.out.mk0 6
      have u1 : W3.cell? ⟨w.heap.size + 1, 1, none⟩ = some (.int .i64 xf) := cell_blk HS.out.bx 1
      have u2 : W3.cell? ⟨w.heap.size + 1 + 1, 0, none⟩ = some (.slice A n c) := cell_blk HS.out.ba 0
      go_upto_region 12 with fail
      refine wp_region_noPanic ?_
      refine wp_region_held_drew (S := (fun V => V.cell? ⟨mb, 6, none⟩ = some (.map (some rl)) ∧ V.cell? ⟨w.heap.size + 1, 1, none⟩ = some (.int .i64 xf) ∧ V.cell? ⟨w.heap.size + 1 + 1, 0, none⟩ = some (.slice A n c))) (by kernel_rfl) ⟨u0, u1, u2⟩ (fun hHeld => ?_)
      have HSd := Lib.hid (HS.out.drew)
      have Hl := Lib.hid (show W3.drew.heap[rl]? = some (.map es1 ck1) from Hl.out)
      have Ht := Lib.hid (show W3.drew.heap[rt]? = some (.map es2 ck2) from Ht.out)
      have Hm := Lib.hid (show W3.drew.heap[rm]? = some (.map es4 ck4) from Hm.out)
      have HCK := Lib.hid (show CK W2 W3.drew from HCK.out)
      clear u0 u1 u2 HS
      generalize W3.drew = W3n at *
      obtain ⟨es1', ck1', hup, ha', hbn'⟩ := run_upd_kw (P := Tryz.prog) (t := 46) (k := xf) (.slice A n c) Tryz.underlying46 Tryz.underlying3 Hl.out Hl0.out.1
      have HS := Lib.hid (HSd.out.putObj (r := rl) (o := .map es1' ck1') (.inl rfl) Hl.out)
      have Hup := Lib.hid (show (Instr.mapUpdate 46 (.map (some rl)) (.int .i64 xf) (.slice A n c)).run Tryz.prog W3n = .ok () (W3n.putObj rl (.map es1' ck1')) from hup)
      have Hs2 := Lib.hid (show (W3n.putObj rl (.map es1' ck1')).cell? ⟨mb, 6, none⟩ = some (.map (some rl)) ∧ (W3n.putObj rl (.map es1' ck1')).cell? ⟨w.heap.size + 1, 1, none⟩ = some (.int .i64 xf) ∧ (W3n.putObj rl (.map es1' ck1')).cell? ⟨w.heap.size + 1 + 1, 0, none⟩ = some (.slice A n c) from ⟨cell_blk HS.out.mk0 6, cell_blk HS.out.bx 1, cell_blk HS.out.ba 0⟩)
      have HArl := Lib.hid ha'
      have HBrl := Lib.hid hbn'
      have Hl2 := Lib.hid (show (W3n.putObj rl (.map es1' ck1')).heap[rl]? = some (.map es1' ck1') from World.putObj_heap_same (Array.getElem?_eq_some_iff.1 Hl.out).1)
      have Ht2 := Lib.hid (show (W3n.putObj rl (.map es1' ck1')).heap[rt]? = some (.map es2 ck2) from (World.putObj_heap_other (Ne.symm hne.1)).trans Ht.out)
      have Hm2 := Lib.hid (show (W3n.putObj rl (.map es1' ck1')).heap[rm]? = some (.map es4 ck4) from (World.putObj_heap_other (Ne.symm hne.2.1)).trans Hm.out)
      have HCK2 := Lib.hid (HCK.out.trans (CK.putObj (o' := .map es1' ck1') Hl.out (fun _ _ _ e => by cases e)))
      clear hup ha' hbn' HSd Hl Ht Hm HCK
      refine wpAnyH_take (i := 0) (v := .pointer (some ⟨mb, 0, none⟩)) rfl (by kernel_rfl) (by kernel_rfl) (by kernel_rfl) (fun _ _ _ h => h) (.inl ⟨by rfl, fun V hV => by obtain ⟨c0, c1, c2⟩ := hV; go_simp⟩) hHeld ?_
      try simp only [Act.put, qB, qC, qE, qF, qG]
      refine wpAnyH_take (i := 1) (v := .pointer (some ⟨mb, 0, none⟩)) rfl (by kernel_rfl) (by kernel_rfl) (by kernel_rfl) (fun _ _ _ h => h) (.inl ⟨by rfl, fun V hV => by obtain ⟨c0, c1, c2⟩ := hV; go_simp⟩) hHeld ?_
      try simp only [Act.put, qB, qC, qD, qE, qF, qG]
      refine wpAnyH_take (i := 2) (v := .pointer (some ⟨mb, 6, none⟩)) rfl (by kernel_rfl) (by kernel_rfl) (by kernel_rfl) (fun _ _ _ h => h) (.inl ⟨by rfl, fun V hV => by obtain ⟨c0, c1, c2⟩ := hV; go_simp⟩) hHeld ?_
      try simp only [Act.put, qB, qC, qD, qE, qF, qG]
      refine wpAnyH_take (i := 3) (v := .map (some rl)) rfl (by kernel_rfl) (by kernel_rfl) (by kernel_rfl) (fun _ _ _ h => h) (.inl ⟨by rfl, fun V hV => by obtain ⟨c0, c1, c2⟩ := hV; go_simp⟩) hHeld ?_
      try simp only [Act.put, qB, qC, qD, qE, qF, qG]
      refine wpAnyH_take (i := 4) (v := .pointer (some ⟨w.heap.size + 1, 1, none⟩)) rfl (by kernel_rfl) (by kernel_rfl) (by kernel_rfl) (fun _ _ _ h => h) (.inl ⟨by rfl, fun V hV => by obtain ⟨c0, c1, c2⟩ := hV; go_simp⟩) hHeld ?_
      try simp only [Act.put, qB, qC, qD, qE, qF, qG]
      refine wpAnyH_take (i := 5) (v := .int .i64 xf) rfl (by kernel_rfl) (by kernel_rfl) (by kernel_rfl) (fun _ _ _ h => h) (.inl ⟨by rfl, fun V hV => by obtain ⟨c0, c1, c2⟩ := hV; go_simp⟩) hHeld ?_
      try simp only [Act.put, qB, qC, qD, qE, qF, qG]
      refine wpAnyH_take (i := 6) (v := .pointer (some ⟨w.heap.size + 1 + 1, 0, none⟩)) rfl (by kernel_rfl) (by kernel_rfl) (by kernel_rfl) (fun _ _ _ h => h) (.inl ⟨by rfl, fun V hV => by obtain ⟨c0, c1, c2⟩ := hV; go_simp⟩) hHeld ?_
      try simp only [Act.put, qB, qC, qD, qE, qF, qG]
      refine wpAnyH_take (i := 7) (v := .slice A n c) rfl (by kernel_rfl) (by kernel_rfl) (by kernel_rfl) (fun _ _ _ h => h) (.inl ⟨by rfl, fun V hV => by obtain ⟨c0, c1, c2⟩ := hV; go_simp⟩) hHeld ?_
      try simp only [Act.put, qB, qC, qD, qE, qF, qG]
      refine wpAnyH_ready (rs := [8]) (by kernel_rfl) (by simp) ?_
      refine AllReadyH.cons rfl (fun K hK => ?_) AllReadyH.nil
      go_simp
      rw [Hup.out]
      simp only [Result.andThen_ok]
      refine hK.out _ _ Hs2.out (fun hHeld => ?_)
      clear hK K
      refine wpAnyH_done (by kernel_rfl) ?_ _
      refine NoPanic.normal ?_
      generalize hZ : W3n.putObj rl (.map es1' ck1') = Zrl at *
      clear hZ Hup Hs2
      have z1 : Zrl.cell? ⟨w.heap.size + 1 + 1 + 1, 1, none⟩ = some (.bool b) := cell_blk HS.out.bb 1
      rcases b with _ | _
      · obtain rfl : pb = none := Option.isSome_eq_false_iff.1 Hvb.out.1.symm |> Option.isNone_iff_eq_none.1
        go_wp2_with fail
        subst hQl
        rw [landed_ret]
        go_ret
        rw [Hr.out]
        exact ⟨HS.out.ap, rfl, MpM_put Hl0.out Hl2.out HArl.out HBrl.out HCK2.out HvA.out, MpM_same Ht0.out Ht2.out HCK2.out, MetM_snoc Hm2.out HA4.out Hm0.out⟩
      · obtain ⟨lb, rfl⟩ := Option.isSome_iff_exists.1 Hvb.out.1.symm
        have HvB := Lib.hid (Hvb.out.2 lb rfl)
        clear Hvb
        have Hl := Lib.hid Hl2.out
        have Ht := Lib.hid Ht2.out
        have Hm := Lib.hid Hm2.out
        have HCK := Lib.hid HCK2.out
        clear Hl2 Ht2 Hm2 HCK2
        have u0 : Zrl.cell? ⟨mb, 7, none⟩ = some (.map (some rt)) := cell_blk HS.out.mk0 7
        have u1 : Zrl.cell? ⟨w.heap.size + 1, 1, none⟩ = some (.int .i64 xf) := cell_blk HS.out.bx 1
        have u2 : Zrl.cell? ⟨w.heap.size + 1 + 1 + 1, 0, none⟩ = some (.slice B m d) := cell_blk HS.out.bb 0
        go_upto_region 14 with fail
        refine wp_region_noPanic ?_
        refine wp_region_held_drew (S := (fun V => V.cell? ⟨mb, 7, none⟩ = some (.map (some rt)) ∧ V.cell? ⟨w.heap.size + 1, 1, none⟩ = some (.int .i64 xf) ∧ V.cell? ⟨w.heap.size + 1 + 1 + 1, 0, none⟩ = some (.slice B m d))) (by kernel_rfl) ⟨u0, u1, u2⟩ (fun hHeld => ?_)
        have HSd := Lib.hid (HS.out.drew)
        have Hl := Lib.hid (show Zrl.drew.heap[rl]? = some (.map es1' ck1') from Hl.out)
        have Ht := Lib.hid (show Zrl.drew.heap[rt]? = some (.map es2 ck2) from Ht.out)
        have Hm := Lib.hid (show Zrl.drew.heap[rm]? = some (.map es4 ck4) from Hm.out)
        have HCK := Lib.hid (show CK W2 Zrl.drew from HCK.out)
        clear u0 u1 u2 HS
        generalize Zrl.drew = Zrln at *
        obtain ⟨es2', ck2', hup, ha', hbn'⟩ := run_upd_kw (P := Tryz.prog) (t := 46) (k := xf) (.slice B m d) Tryz.underlying46 Tryz.underlying3 Ht.out Ht0.out.1
        have HS := Lib.hid (HSd.out.putObj (r := rt) (o := .map es2' ck2') (.inr (.inl rfl)) Ht.out)
        have Hup := Lib.hid (show (Instr.mapUpdate 46 (.map (some rt)) (.int .i64 xf) (.slice B m d)).run Tryz.prog Zrln = .ok () (Zrln.putObj rt (.map es2' ck2')) from hup)
        have Hs2 := Lib.hid (show (Zrln.putObj rt (.map es2' ck2')).cell? ⟨mb, 7, none⟩ = some (.map (some rt)) ∧ (Zrln.putObj rt (.map es2' ck2')).cell? ⟨w.heap.size + 1, 1, none⟩ = some (.int .i64 xf) ∧ (Zrln.putObj rt (.map es2' ck2')).cell? ⟨w.heap.size + 1 + 1 + 1, 0, none⟩ = some (.slice B m d) from ⟨cell_blk HS.out.mk0 7, cell_blk HS.out.bx 1, cell_blk HS.out.bb 0⟩)
        have HArt := Lib.hid ha'
        have HBrt := Lib.hid hbn'
        have Hl2 := Lib.hid (show (Zrln.putObj rt (.map es2' ck2')).heap[rl]? = some (.map es1' ck1') from (World.putObj_heap_other hne.1).trans Hl.out)
        have Ht2 := Lib.hid (show (Zrln.putObj rt (.map es2' ck2')).heap[rt]? = some (.map es2' ck2') from World.putObj_heap_same (Array.getElem?_eq_some_iff.1 Ht.out).1)
        have Hm2 := Lib.hid (show (Zrln.putObj rt (.map es2' ck2')).heap[rm]? = some (.map es4 ck4) from (World.putObj_heap_other (Ne.symm hne.2.2)).trans Hm.out)
        have HCK2 := Lib.hid (HCK.out.trans (CK.putObj (o' := .map es2' ck2') Ht.out (fun _ _ _ e => by cases e)))
        clear hup ha' hbn' HSd Hl Ht Hm HCK
        refine wpAnyH_take (i := 0) (v := .pointer (some ⟨mb, 0, none⟩)) rfl (by kernel_rfl) (by kernel_rfl) (by kernel_rfl) (fun _ _ _ h => h) (.inl ⟨by rfl, fun V hV => by obtain ⟨c0, c1, c2⟩ := hV; go_simp⟩) hHeld ?_
        try simp only [Act.put, qB, qC, qE, qF, qG]
        refine wpAnyH_take (i := 1) (v := .pointer (some ⟨mb, 0, none⟩)) rfl (by kernel_rfl) (by kernel_rfl) (by kernel_rfl) (fun _ _ _ h => h) (.inl ⟨by rfl, fun V hV => by obtain ⟨c0, c1, c2⟩ := hV; go_simp⟩) hHeld ?_
        try simp only [Act.put, qB, qC, qD, qE, qF, qG]
        refine wpAnyH_take (i := 2) (v := .pointer (some ⟨mb, 7, none⟩)) rfl (by kernel_rfl) (by kernel_rfl) (by kernel_rfl) (fun _ _ _ h => h) (.inl ⟨by rfl, fun V hV => by obtain ⟨c0, c1, c2⟩ := hV; go_simp⟩) hHeld ?_
        try simp only [Act.put, qB, qC, qD, qE, qF, qG]
        refine wpAnyH_take (i := 3) (v := .map (some rt)) rfl (by kernel_rfl) (by kernel_rfl) (by kernel_rfl) (fun _ _ _ h => h) (.inl ⟨by rfl, fun V hV => by obtain ⟨c0, c1, c2⟩ := hV; go_simp⟩) hHeld ?_
        try simp only [Act.put, qB, qC, qD, qE, qF, qG]
        refine wpAnyH_take (i := 4) (v := .pointer (some ⟨w.heap.size + 1, 1, none⟩)) rfl (by kernel_rfl) (by kernel_rfl) (by kernel_rfl) (fun _ _ _ h => h) (.inl ⟨by rfl, fun V hV => by obtain ⟨c0, c1, c2⟩ := hV; go_simp⟩) hHeld ?_
        try simp only [Act.put, qB, qC, qD, qE, qF, qG]
        refine wpAnyH_take (i := 5) (v := .int .i64 xf) rfl (by kernel_rfl) (by kernel_rfl) (by kernel_rfl) (fun _ _ _ h => h) (.inl ⟨by rfl, fun V hV => by obtain ⟨c0, c1, c2⟩ := hV; go_simp⟩) hHeld ?_
        try simp only [Act.put, qB, qC, qD, qE, qF, qG]
        refine wpAnyH_take (i := 6) (v := .pointer (some ⟨w.heap.size + 1 + 1 + 1, 0, none⟩)) rfl (by kernel_rfl) (by kernel_rfl) (by kernel_rfl) (fun _ _ _ h => h) (.inl ⟨by rfl, fun V hV => by obtain ⟨c0, c1, c2⟩ := hV; go_simp⟩) hHeld ?_
        try simp only [Act.put, qB, qC, qD, qE, qF, qG]
        refine wpAnyH_take (i := 7) (v := .slice B m d) rfl (by kernel_rfl) (by kernel_rfl) (by kernel_rfl) (fun _ _ _ h => h) (.inl ⟨by rfl, fun V hV => by obtain ⟨c0, c1, c2⟩ := hV; go_simp⟩) hHeld ?_
        try simp only [Act.put, qB, qC, qD, qE, qF, qG]
        refine wpAnyH_ready (rs := [8]) (by kernel_rfl) (by simp) ?_
        refine AllReadyH.cons rfl (fun K hK => ?_) AllReadyH.nil
        go_simp
        rw [Hup.out]
        simp only [Result.andThen_ok]
        refine hK.out _ _ Hs2.out (fun hHeld => ?_)
        clear hK K
        refine wpAnyH_done (by kernel_rfl) ?_ _
        refine NoPanic.normal ?_
        generalize hZ : Zrln.putObj rt (.map es2' ck2') = Zrt at *
        clear hZ Hup Hs2
        go_wp2_with fail
        subst hQl
        rw [landed_ret]
        go_ret
        rw [Hr.out]
        exact ⟨HS.out.ap, rfl, MpM_put Hl0.out Hl2.out HArl.out HBrl.out HCK2.out HvA.out, MpM_put Ht0.out Ht2.out HArt.out HBrt.out HCK2.out HvB.out, MetM_snoc Hm2.out HA4.out Hm0.out⟩
end Go.Vir


namespace Go.Vir
open Go

def FF (n : Nat) : Nat := Ieee.double.nearest false n 0

theorem dbl_binade : Ieee.double.binade = 4503599627370496 := by decide
theorem dbl_inf : Ieee.double.infRung = 9218868437227405312 := by decide
theorem dbl_sign : Ieee.double.signWeight = 9223372036854775808 := by decide
theorem dbl_least : Ieee.double.leastPlace = -1074 := by decide
theorem dbl_frac : Ieee.double.fractionBits = 52 := rfl

theorem cut_none (way : Ieee.Toward) (s : Bool) (n : Nat) : way.cut s n 0 = n := by
  unfold Ieee.Toward.cut
  cases way <;> simp [Nat.mod_one]

theorem read_word (r : Nat) (h1 : 4503599627370496 ≤ r) (h2 : r < 9218868437227405312) :
    Ieee.double.read r = .number false (4503599627370496 + r % 4503599627370496) (-1074 + (r / 4503599627370496 - 1 : Nat)) := by
  unfold Ieee.Format.read
  simp only [dbl_binade, dbl_inf, dbl_sign, dbl_least]
  have e1 : r % 9223372036854775808 = r := Nat.mod_eq_of_lt (by omega)
  have e2 : r / 9223372036854775808 = 0 := Nat.div_eq_of_lt (by omega)
  rw [e1, e2, if_neg (by omega), if_pos h2]
  rfl

theorem read_zero (q : Nat) (hq : q = 1074) : Ieee.double.read (FF 0) = .number false (0 * 2 ^ q) (-(q : Int)) := by
  rw [Nat.zero_mul]
  have : FF 0 = 0 := by decide
  rw [this, hq]
  unfold Ieee.Format.read
  simp only [dbl_binade, dbl_sign, dbl_least]
  rfl

theorem read_FF (n : Nat) (h : n < 16777216) : ∃ p : Nat, p ≤ 1074 ∧ Ieee.double.read (FF n) = .number false (n * 2 ^ p) (-(p : Int)) ∧ (n ≠ 0 → p ≤ 52 ∧ 2 ^ 52 ≤ n * 2 ^ p) := by
  by_cases h0 : n = 0
  · subst h0
    exact ⟨1074, Nat.le_refl _, read_zero 1074 rfl, fun h => absurd rfl h⟩
  · have hl1 := Nat.log2_self_le h0
    have hl2 : n < 2 ^ (n.log2 + 1) := Nat.lt_log2_self
    have hl3 : n.log2 < 24 := (Nat.log2_lt h0).2 (by omega)
    generalize hL : n.log2 = L at *
    have hk1 : 2 ^ 52 ≤ n * 2 ^ (52 - L) := by
      calc 2 ^ 52 = 2 ^ L * 2 ^ (52 - L) := by rw [← Nat.pow_add]; congr 1; omega
        _ ≤ n * 2 ^ (52 - L) := Nat.mul_le_mul_right _ hl1
    have hk2 : n * 2 ^ (52 - L) < 2 ^ 53 := by
      calc n * 2 ^ (52 - L) < 2 ^ (L + 1) * 2 ^ (52 - L) := Nat.mul_lt_mul_of_pos_right hl2 (Nat.two_pow_pos _)
        _ = 2 ^ 53 := by rw [← Nat.pow_add]; congr 1; omega
    refine ⟨52 - L, by omega, ?_, fun _ => ⟨by omega, hk1⟩⟩
    have hff : FF n = (1022 + L) * 4503599627370496 + n * 2 ^ (52 - L) := by
      unfold FF Ieee.Format.nearest
      rw [if_neg h0]
      simp only [dbl_binade, dbl_inf, dbl_least, dbl_frac, hL]
      have hm : max ((0 : Int) + (L : Int) - ((52 : Nat) : Int)) (-1074) = -((52 - L : Nat) : Int) := by omega
      rw [hm]
      have e1 : ((0 : Int) - -((52 - L : Nat) : Int)).toNat = 52 - L := by omega
      have e2 : (-((52 - L : Nat) : Int) - 0).toNat = 0 := by omega
      have e3 : (-((52 - L : Nat) : Int) - -1074).toNat = 1022 + L := by omega
      rw [e1, e2, e3, cut_none, Nat.shiftLeft_eq]
      generalize n * 2 ^ (52 - L) = k at *
      show (if false = true then _ else _) = _
      rw [if_neg (by simp)]
      exact Nat.min_eq_left (by omega)
    rw [hff]
    generalize n * 2 ^ (52 - L) = k at *
    rw [read_word _ (by omega) (by omega)]
    congr 1
    · omega
    · omega

theorem cmp_mul (a b c : Nat) (hc : 0 < c) : compare (((a * c : Nat)) : Int) ((b * c : Nat) : Int) = compare a b := by
  show compareOfLessAndEq _ _ = compareOfLessAndEq _ _
  unfold compareOfLessAndEq
  have h1 : (((a * c : Nat) : Int) < ((b * c : Nat) : Int)) ↔ a < b := by
    rw [Int.ofNat_lt]; exact Nat.mul_lt_mul_right hc
  have h2 : (((a * c : Nat) : Int) = ((b * c : Nat) : Int)) ↔ a = b := by
    rw [Int.ofNat_inj]; exact Nat.mul_left_inj (by omega)
  simp only [h1, h2]

theorem order_FF (a b : Nat) (ha : a < 16777216) (hb : b < 16777216) : FloatKind.f64.format.order (FF a) (FF b) = some (compare a b) := by
  obtain ⟨p, _, h1, _⟩ := read_FF a ha
  obtain ⟨q, _, h2, _⟩ := read_FF b hb
  show ((Ieee.double.read (FF a)).order (Ieee.double.read (FF b))) = _
  rw [h1, h2]
  simp only [Ieee.Datum.order, Ieee.signed, Bool.false_eq_true, if_false, Nat.shiftLeft_eq]
  congr 1
  rcases Nat.le_total p q with hpq | hpq
  · have e0 : min (-(p : Int)) (-(q : Int)) = -(q : Int) := by omega
    rw [e0]
    have e1 : (-(p : Int) - -(q : Int)).toNat = q - p := by omega
    have e2 : (-(q : Int) - -(q : Int)).toNat = 0 := by omega
    rw [e1, e2, Nat.mul_assoc, ← Nat.pow_add, Nat.mul_assoc, ← Nat.pow_add, show p + (q - p) = q by omega, Nat.add_zero]
    exact cmp_mul a b _ (Nat.two_pow_pos _)
  · have e0 : min (-(p : Int)) (-(q : Int)) = -(p : Int) := by omega
    rw [e0]
    have e1 : (-(p : Int) - -(p : Int)).toNat = 0 := by omega
    have e2 : (-(q : Int) - -(p : Int)).toNat = p - q := by omega
    rw [e1, e2, Nat.mul_assoc, ← Nat.pow_add, Nat.mul_assoc, ← Nat.pow_add, show q + (p - q) = p by omega, Nat.add_zero]
    exact cmp_mul a b _ (Nat.two_pow_pos _)

theorem lt_FF (a b : Nat) (ha : a < 16777216) (hb : b < 16777216) : (FloatKind.f64.format.order (FF a) (FF b) == some .lt) = decide (a < b) := by
  rw [order_FF a b ha hb, Bool.eq_iff_iff, beq_iff_eq, Option.some.injEq, decide_eq_true_eq]
  exact Nat.compare_eq_lt
theorem gt_FF (a b : Nat) (ha : a < 16777216) (hb : b < 16777216) : (FloatKind.f64.format.order (FF a) (FF b) == some .gt) = decide (b < a) := by
  rw [order_FF a b ha hb, Bool.eq_iff_iff, beq_iff_eq, Option.some.injEq, decide_eq_true_eq]
  exact Nat.compare_eq_gt

theorem toInt_FF (n : Nat) (h : n < 16777216) : (FloatKind.f64.decode (FF n)).toInt .zero = some (n : Int) := by
  obtain ⟨p, _, h1, h2⟩ := read_FF n h
  show ((Ieee.double.read (FF n)).toInt .zero) = _
  rw [h1]
  simp only [Ieee.Datum.toInt, Ieee.Datum.integral, Ieee.signed, Bool.false_eq_true, if_false, Nat.shiftLeft_eq]
  have e1 : (-(p : Int)).toNat = 0 := by omega
  have e2 : (- -(p : Int)).toNat = p := by omega
  rw [e1, e2]
  simp only [Nat.pow_zero, Nat.mul_one]
  congr 2
  unfold Ieee.Toward.cut
  by_cases h0 : n = 0
  · subst h0; simp
  · obtain ⟨hp, hk⟩ := h2 h0
    have hlog : 52 ≤ (n * 2 ^ p).log2 := (Nat.le_log2 (by omega)).2 hk
    have hm : min p ((n * 2 ^ p).log2 + 2) = p := by omega
    simp only [hm, Nat.shiftLeft_eq, Nat.one_mul, Nat.mul_div_cancel _ (Nat.two_pow_pos p), Bool.toNat_false, Nat.add_zero]

theorem nearest_FF (n : Nat) : FloatKind.f64.nearest (n : Int) = FF n := by
  unfold FloatKind.nearest FF
  have h : decide ((n : Int) < 0) = false := by simp
  rw [h]
  rfl
theorem FF_max : FF 1114111 = 4697535882029170688 := by decide
end Go.Vir


namespace Go.Vir
open Go Go.RowKit Go.Proofs Go.Shelf
attribute [local go_sem] Oper.semAt_some

theorem cut_dots : ∀ s : List UInt8, Lib.cut s [46, 46] = match dotsL s with | some (h, t) => (h, t, true) | none => (s, [], false) := by
  have key : ∀ s : List UInt8, match dotsL s with | some (h, _) => Lib.index s [46, 46] = (h.length : Int) | none => Lib.index s [46, 46] = -1 := by
    intro s
    induction s with
    | nil => rfl
    | cons b s ih =>
      unfold dotsL Lib.index
      have hp : ([46, 46] : List UInt8).isPrefixOf (b :: s) = decide (b = 46 ∧ s.head? = some 46) := by
        cases s with
        | nil => rw [Bool.eq_iff_iff]; simp [List.isPrefixOf]
        | cons c s =>
          show ((46 == b) && ((46 == c) && true)) = _
          rw [Bool.and_true, Bool.eq_iff_iff, Bool.and_eq_true, beq_iff_eq, beq_iff_eq, decide_eq_true_eq]
          exact ⟨fun h => ⟨h.1.symm, by rw [← h.2]; rfl⟩, fun h => ⟨h.1.symm, by have := h.2; simp at this; exact this.symm⟩⟩
      rw [hp]
      by_cases hc : b = 46 ∧ s.head? = some 46
      · rw [if_pos hc, decide_eq_true hc]; rfl
      · rw [if_neg hc, decide_eq_false hc]
        simp only [Bool.false_eq_true, if_false]
        rcases hd : dotsL s with _ | ⟨h, t⟩
        · rw [hd] at ih
          simp only at ih
          simp only [Option.map_none, ih]
          rfl
        · rw [hd] at ih
          simp only at ih
          simp only [Option.map_some, ih]
          have : (((h.length : Nat) : Int) == -1) = false := by rw [beq_eq_false_iff_ne]; omega
          rw [this]
          simp
  intro s
  have h := key s
  unfold Lib.cut
  rcases hd : dotsL s with _ | ⟨x, t⟩
  · rw [hd] at h
    simp only at h
    rw [h]
    rfl
  · rw [hd] at h
    simp only at h
    have hs := dots_len hd
    rw [h, if_pos (by omega)]
    simp only [Int.toNat_natCast]
    rw [hs]
    simp

theorem float_FF (n : Nat) : floatOfInt .f64 (n : Int) = FF n := nearest_FF n
def EndsC (r : Option (Nat × Nat)) (e : Ending) : Prop := ∃ a b : Nat, e = .returned (.tuple #[.complex .f64 (FF a) (FF b), .bool r.isSome]) ∧ ∀ x y, r = some (x, y) → a = x ∧ b = y
theorem ends_two {s h t : List UInt8} (hd : dotsL s = some (h, t)) : (endsN s).isSome = ((codeN h).isSome && (codeN t).isSome) ∧ ∀ x y, endsN s = some (x, y) → codeI h = (x : Int) ∧ codeI t = (y : Int) ∧ (codeN h).getD 0 = x ∧ (codeN t).getD 0 = y := by
  have e : endsN s = match codeN h, codeN t with
    | some a, some b => some (a, b)
    | _, _ => none := by unfold endsN; rw [hd]; rfl
  rw [e]
  unfold codeI
  rcases codeN h with _ | a
  · exact ⟨rfl, fun x y h => by cases h⟩
  · rcases codeN t with _ | b
    · exact ⟨rfl, fun x y h => by cases h⟩
    · exact ⟨rfl, fun x y h => by cases h; exact ⟨rfl, rfl, rfl, rfl⟩⟩
theorem ends_one {s : List UInt8} (hd : dotsL s = none) : (endsN s).isSome = (codeN s).isSome ∧ ∀ x y, endsN s = some (x, y) → codeI s = (x : Int) ∧ codeI s = (y : Int) ∧ (codeN s).getD 0 = x ∧ (codeN s).getD 0 = y := by
  have e : endsN s = (codeN s).map fun n => (n, n) := by unfold endsN; rw [hd]
  rw [e]
  unfold codeI
  rcases codeN s with _ | a
  · exact ⟨rfl, fun x y h => by cases h⟩
  · exact ⟨rfl, fun x y h => by cases h; exact ⟨rfl, rfl, rfl, rfl⟩⟩

set_option maxHeartbeats 1600000 in
theorem field_ends (s : List UInt8) (w : World) (hG : ∃ m, w.cell? ⟨4, 0, none⟩ = some (.int .i64 m)) (hs : s.length ≤ 1000000) :
    Calls Tryz.prog 165 #[.string ⟨s.toArray⟩] w fun e w' => EndsC (endsN s) e ∧ Below w.heap.size w w' := by
  obtain ⟨mm, hmm⟩ := hG
  have hcut := Tryz.strings_Cut ⟨s.toArray⟩ ⟨#[46, 46]⟩ mm w (by have := Lib.size_eq ⟨s.toArray⟩; simp at this ⊢; omega) hmm
  rw [show (⟨s.toArray⟩ : ByteArray).data.toList = s by simp, show (⟨#[46, 46]⟩ : ByteArray).data.toList = [46, 46] by rfl, cut_dots] at hcut
  have hnf := float_FF
  rcases hd : dotsL s with _ | ⟨h, t⟩
  · rw [hd] at hcut
    simp only at hcut
    obtain ⟨h1, h2⟩ := ends_one hd
    have hc := fun W => field_Code s W (by omega)
    rw [show codeI s = (((codeN s).getD 0 : Nat) : Int) from rfl] at hc
    generalize endsN s = R at *
    have H2 := Lib.hid h2
    have Hcut := Lib.hid hcut
    have Hc := Lib.hid hc
    have H1 := Lib.hid h1
    clear h1 h2 hcut hc hd
    generalize (codeN s).isSome = ok at *
    generalize (codeN s).getD 0 = a at *
    go_enter Tryz.func165, Tryz.ntmps165
    go_wp2_with fail
    refine Hcut.out.mono ?_
    rintro e w1 ⟨rfl, q, rfl⟩
    go_wp2_with fail
    refine (Hc.out _).mono ?_
    rintro e w2 ⟨rfl, hb2⟩
    go_wp2_with fail
    go_ret2
    exact ⟨⟨a, a, by rw [H1.out]; rfl, fun x y hxy => ⟨(H2.out x y hxy).2.2.1, (H2.out x y hxy).2.2.2⟩⟩, (below_drewN _ _ _).trans hb2⟩
  · rw [hd] at hcut
    simp only at hcut
    obtain ⟨h1, h2⟩ := ends_two hd
    have hlen := congrArg List.length (dots_len hd)
    simp only [List.length_append, List.length_cons] at hlen
    have hc1 := fun W => field_Code h W (by omega)
    have hc2 := fun W => field_Code t W (by omega)
    rw [show codeI h = (((codeN h).getD 0 : Nat) : Int) from rfl] at hc1
    rw [show codeI t = (((codeN t).getD 0 : Nat) : Int) from rfl] at hc2
    generalize endsN s = R at *
    have H2 := Lib.hid h2
    have Hcut := Lib.hid hcut
    have Hc1 := Lib.hid hc1
    have Hc2 := Lib.hid hc2
    have H1 := Lib.hid h1
    clear h1 h2 hcut hc1 hc2 hd hlen
    generalize (codeN h).isSome = ok at *
    generalize (codeN h).getD 0 = a at *
    generalize (codeN t).isSome = ok2 at *
    generalize (codeN t).getD 0 = b at *
    go_enter Tryz.func165, Tryz.ntmps165
    go_wp2_with fail
    refine Hcut.out.mono ?_
    rintro e w1 ⟨rfl, q, rfl⟩
    go_wp2_with fail
    refine (Hc1.out _).mono ?_
    rintro e w2 ⟨rfl, hb2⟩
    go_wp2_with fail
    refine (Hc2.out _).mono ?_
    rintro e w3 ⟨rfl, hb3⟩
    have hbq := ((below_drewN w.heap.size w q).trans hb2).trans (hb3.mono hb2.size)
    rcases ok with _ | _
    · go_wp2_with fail
      go_ret2
      exact ⟨⟨a, b, by rw [H1.out]; rfl, fun x y hxy => ⟨(H2.out x y hxy).2.2.1, (H2.out x y hxy).2.2.2⟩⟩, hbq⟩
    · go_wp2_with fail
      go_ret2
      exact ⟨⟨a, b, by rw [H1.out]; rfl, fun x y hxy => ⟨(H2.out x y hxy).2.2.1, (H2.out x y hxy).2.2.2⟩⟩, hbq⟩

end Go.Vir


namespace Go.Vir
open Go Go.RowKit Go.Proofs Go.Shelf
attribute [local go_sem] Oper.semAt_some

theorem own_fresh1 {w : World} {base e n c m : Nat} {A : Option Addr} {xs : List Value} (h : w.ownsRow base e 1 (.slice A n c) m xs) : Fresh base A n := fun hn => by
  rcases h.2 with ⟨h1, _⟩ | ⟨g, cap, cur, h1, h2, _⟩
  · injection h1 with _ h3 _; omega
  · injection h1 with h3 _ _
    exact ⟨g, 0, h3, h2⟩

set_option maxRecDepth 100000 in
set_option maxHeartbeats 1600000 in
theorem field_trimmed (A : Option Addr) (n c : Nat) (ss : List (List UInt8)) (w : World) (hz : Strs w w.heap.size A n ss) (hn : n ≤ 1000000) (hs : ∀ x ∈ ss, x.length ≤ 1000000) :
    Calls Tryz.prog 164 #[.slice A n c] w fun e w' => (∃ A' n' c', e = .returned (.slice A' n' c') ∧ n' ≤ c' ∧ Strs w' w'.heap.size A' n' (ss.map trimL) ∧ Fresh w.heap.size A' n') ∧ Below w.heap.size w w' := by
  obtain ⟨i0, hi0, hz0, hz1, hz2⟩ := info_parts str_info
  have Hlen := Lib.hid hz.len
  have htr := fun (s : List UInt8) (h : s ∈ ss) W => trim_blanks s W (hs s h)
  have Htr := Lib.hid htr
  clear htr hs
  go_enter Tryz.func164, Tryz.ntmps164
  go_wp2
  go_loopw [3, 8] (fun v0 i wr => ∃ (k : Nat) (v : Value), v = v0 ∧ k ≤ n ∧ i = .int .i64 (k : Int) ∧ wr.ownsRow w.heap.size 9 1 v ((ss.take k).map trimL).length (strVs ((ss.take k).map trimL)) ∧ Below w.heap.size w wr) (fun _ i _ => n - (RowKit.intOf i).toNat)
  case atStart => exact ⟨0, _, rfl, Nat.zero_le _, rfl, by simpa [strVs] using World.ownsRow_nil _ _ _ _, Below.refl _ _⟩
  case round =>
    obtain ⟨k, v, rfl, hk, rfl, hown, hbr⟩ := hrel
    rcases Nat.lt_or_ge k n with hlt | hge
    · obtain ⟨zb, zo, rfl, hzb, hzc⟩ := hz.at_ (by omega)
      have hkl : k < ss.length := by rw [Hlen.out]; exact hlt
      have z1 := (cellOf hbr hzb).trans (hzc k hkl)
      have htk : (ss.take (k + 1)).map trimL = (ss.take k).map trimL ++ [trimL ss[k]] := by rw [List.take_succ_eq_append_getElem hkl, List.map_append]; rfl
      have Htk := Lib.hid htk
      have htr := Htr.out ss[k] (List.getElem_mem hkl)
      have Ht1 := Lib.hid htr
      have hll : ((ss.take k).map trimL).length ≤ 1000000 := by simp; omega
      clear hzc htk htr
      generalize ss[k] = s at *
      go_wp2_with fail
      refine (Ht1.out _).mono ?_
      rintro e w4 ⟨rfl, hb4⟩
      have hb5 := hbr.trans (hb4.mono hbr.size)
      have hown1 := (ownsRow_below hown hb4).alloc (.cells #[.string ⟨(trimL s).toArray⟩] 9)
      have Hcs := Lib.hid (cell_one_new w4 (.string ⟨(trimL s).toArray⟩) 9)
      have hbA : Below w.heap.size w (w4.alloc (.cells #[.string ⟨(trimL s).toArray⟩] 9)) := hb5.alloc hb5.size _
      have Hlt := Lib.hid (ownsRow_below hown hb4).lt
      have hbs := hb5.size
      clear hown hbr hb4
      go_wp2_with (at_builtin; refine wpList_append_at _ rfl _ _ 86 rfl w.heap.size 9 i0 (.string ⟨#[]⟩) 1 16 Tryz.underlying86 hi0 hz0 hz1 hz2 rfl (by decide) _ _ _ rfl hown1 ⟨w4.heap.size, 0, none⟩ 1 1 [.string ⟨(trimL s).toArray⟩] rfl rfl Hcs.out (by simp [Value.oneCell']) (by simp only [maxLen]; omega) (by omega) (by simp; omega) ?_; intro v' w5 hown5 hgrow hat)
      have hbr5 : Below w.heap.size w w5 := hbA.grown hgrow (by simp; omega) (fun g hg => (Hlt.out g hg).1)
      have hown6 : w5.ownsRow w.heap.size 9 1 v' ((ss.take (k + 1)).map trimL).length (strVs ((ss.take (k + 1)).map trimL)) := by
        rw [Htk.out, List.length_append]
        simpa [strVs] using hown5
      go_roundw
      case rel => exact ⟨k + 1, _, rfl, by omega, by go_num, hown6, hbr5⟩
      case measure => simp [RowKit.intOf]; omega
    · rw [List.take_of_length_le (by rw [Hlen.out]; exact hge)] at hown
      obtain ⟨A', n', c', rfl, hn', hnc', hS⟩ := slice_own hown
      have HS := Lib.hid hS
      have hfr := own_fresh1 hown
      have Hfr := Lib.hid hfr
      clear hS hown hn' hfr
      go_wp2_with fail
      go_ret
      exact ⟨⟨A', n', c', rfl, hnc', HS.out, Hfr.out⟩, hbr⟩

theorem Strs.tail {w : World} {B b o n : Nat} {l : List (List UInt8)} (h : Strs w B (some ⟨b, o, none⟩) n l) (hn : 0 < n) : Strs w B (some ⟨b, o + 1, none⟩) (n - 1) l.tail := by
  have hl := h.len
  refine ⟨by rw [List.length_tail, hl], fun _ => ?_⟩
  obtain ⟨b', o', e, hb, hc⟩ := h.at_ hn
  obtain ⟨rfl, rfl⟩ : b = b' ∧ o = o' := by simpa using e
  refine ⟨b, o + 1, rfl, hb, fun j hj => ?_⟩
  rw [List.length_tail] at hj
  have := hc (j + 1) (by omega)
  rw [show o + (j + 1) = o + 1 + j by omega] at this
  rw [List.getElem_tail]
  exact this
theorem Fresh.tail {B0 b o n : Nat} (h : Fresh B0 (some ⟨b, o, none⟩) n) (hn : 0 < n) (m : Nat) : Fresh B0 (some ⟨b, o + 1, none⟩) m := fun _ => by
  obtain ⟨b', o', e, hb⟩ := h hn
  obtain ⟨rfl, rfl⟩ : b = b' ∧ o = o' := by simpa using e
  exact ⟨b, o + 1, rfl, hb⟩
def RecEnd (B0 : Nat) (r : LineR) (e : Ending) (w' : World) : Prop := match r with
  | .none => e = .returned (.tuple #[.pointer none, .nilIface])
  | .bad why => e = .returned (.tuple #[.pointer none, .iface 183 (.agg #[.int .i64 why])])
  | .rcd a b fs => ∃ rb A n c, e = .returned (.tuple #[.pointer (some ⟨rb, 0, none⟩), .nilIface]) ∧ w'.heap[rb]? = some (.cells #[.int .i64 0, .int .i64 (a : Int), .int .i64 (b : Int), .slice A n c] 88 (0, 0)) ∧ Strs w' rb A n fs ∧ n ≤ c ∧ Fresh B0 A n ∧ B0 ≤ rb

theorem run_toInt (a : Nat) (h : a < 16777216) (W : World) : (convert 250 3 (.float .f64 (FF a))).run Tryz.prog W = .ok (.int .i64 (a : Int)) W := by
  refine run_convert_float_int W 250 3 .f64 .i64 (FF a) (a : Int) (by kernel_rfl) Tryz.underlying3 ?_
  unfold floatToIntVal
  rw [toInt_FF a h]
  simp only
  rw [if_pos ⟨by show (-9223372036854775808 : Int) ≤ _; omega, by show _ ≤ (9223372036854775807 : Int); omega⟩]

set_option maxRecDepth 100000 in
set_option maxHeartbeats 3200000 in
theorem field_record (s : List UInt8) (w : World) (hG : ∃ m, w.cell? ⟨4, 0, none⟩ = some (.int .i64 m)) (hgl : 4 < w.heap.size) (hs : s.length ≤ 100000) :
    Calls Tryz.prog 145 #[.string ⟨s.toArray⟩] w fun e w' => RecEnd w.heap.size (lineN s) e w' ∧ Below w.heap.size w w' := by
  obtain ⟨mm, hmm⟩ := hG
  have Hmm := Lib.hid hmm
  have hcut := Tryz.strings_Cut ⟨s.toArray⟩ ⟨#[35]⟩ mm w (by have := Lib.size_eq ⟨s.toArray⟩; simp at this ⊢; omega) hmm
  have he : (Lib.cut (⟨s.toArray⟩ : ByteArray).data.toList (⟨#[35]⟩ : ByteArray).data.toList).1 = hashL s := by
    rw [show (⟨s.toArray⟩ : ByteArray).data.toList = s by simp]; exact cut_hash s
  rw [he] at hcut
  generalize (Lib.cut (⟨s.toArray⟩ : ByteArray).data.toList (⟨#[35]⟩ : ByteArray).data.toList).2 = c2 at hcut
  have htr := fun W => trim_blanks (hashL s) W (by have := hash_len s; omega)
  have htl : (trimL (hashL s)).length ≤ 100000 := by have := trimL_len (hashL s); have := hash_len s; omega
  obtain ⟨L, hL⟩ : ∃ L, lineN s = L := ⟨_, rfl⟩
  rw [hL]
  unfold lineN at hL
  generalize trimL (hashL s) = u at htr htl hL
  have HL := Lib.hid hL
  have Htr := Lib.hid htr
  have Hcut := Lib.hid hcut
  clear hL htr hcut he
  go_enter Tryz.func145, Tryz.ntmps145
  go_wp2_with fail
  refine wp_scope_once ?_
  generalize hQl : landed _ _ _ = Ql
  go_wp2_with fail
  refine Hcut.out.mono ?_
  rintro e w1 ⟨rfl, q, rfl⟩
  go_wp2_with fail
  refine (Htr.out _).mono ?_
  rintro e w2 ⟨rfl, hb2⟩
  have hb3 := (below_drewN w.heap.size w q).trans hb2
  have hm2 := (cellOf hb3 hgl).trans hmm
  clear hb2 hmm
  by_cases hu : u = []
  · have hl : L = .none := by rw [← HL.out, if_pos hu]
    have Hl := Lib.hid hl
    subst hu
    clear hl
    go_wp2_with fail
    subst hQl
    rw [landed_ret]
    go_ret2
    exact ⟨by rw [Hl.out]; rfl, hb3⟩
  · have hue : u.isEmpty = false := by cases u with | nil => exact absurd rfl hu | cons a b => rfl
    have hL2 := HL.out
    rw [if_neg hu] at hL2
    have hne : (splitL 59 u).map trimL ≠ [] := by
      have := splitL_ne 59 u
      simpa using this
    have hsp := split_by 59 u mm w2 (by omega) hm2
    have hmem : ∀ x ∈ splitL 59 u, x.length ≤ 100000 := fun x hx => by have := (splitL_mem 59 u x hx).1; omega
    have hsl := splitL_length 59 u
    have hlm : ∀ x ∈ (splitL 59 u).map trimL, x.length ≤ 100000 := fun x hx => by
      obtain ⟨y, hy, rfl⟩ := List.mem_map.1 hx
      have := hmem y hy
      have := trimL_len y
      omega
    have htm := fun A n (hn : n ≤ 1000000) c W (hz : Strs W W.heap.size A n (splitL 59 u)) => field_trimmed A n c (splitL 59 u) W hz hn (fun x hx => by have := hmem x hx; omega)
    have hln : ∀ A n B W, Strs W B A n (splitL 59 u) → n ≤ 100001 := fun A n B W h => by have := h.len; omega
    generalize (splitL 59 u).map trimL = l at *
    generalize splitL 59 u = l0 at *
    have Hsp := Lib.hid hsp
    have Htm := Lib.hid htm
    have HL2 := Lib.hid hL2
    have Hln := Lib.hid hln
    have h0l : 0 < l.length := by cases l with | nil => exact absurd rfl hne | cons a b => simp
    have hh0 : l.headD [] = l[0] := by cases l with | nil => exact absurd rfl hne | cons a b => rfl
    have hl0 := hlm l[0] (List.getElem_mem h0l)
    have hen := fun W hW => field_ends l[0] W hW (by omega)
    have Hen := Lib.hid hen
    have Hh0 := Lib.hid hh0
    clear hsp htm hL2 hln hmem hsl hlm hne hen hh0 HL hm2
    go_wp2_with fail
    refine Hsp.out.mono ?_
    rintro e w3 ⟨A3, n3, rfl, hS3, hb4⟩
    have hn3 := Hln.out _ _ _ _ hS3
    have hb5 := hb3.trans (hb4.mono hb3.size)
    go_wp2_with fail
    refine (Htm.out _ _ (by omega) _ _ hS3).mono ?_
    rintro e w4 ⟨⟨A4, n4, c4, rfl, hnc4, hS4, hf4⟩, hb6⟩
    have hb7 := hb5.trans (hb6.mono hb5.size)
    have hlen4 := hS4.len
    have hn4 : 0 < n4 := by omega
    obtain ⟨b4, o4, rfl, hb4l, hc4⟩ := hS4.at_ hn4
    have z0 := hc4 0 h0l
    simp only [Nat.add_zero] at z0
    have hS4' := hS4
    have hf4' : Fresh w.heap.size (some ⟨b4, o4, none⟩) n4 := hf4.less hb5.size
    clear hc4 hS3 hS4 hf4 hb4 hb6 Hsp Htm Hln
    have HS4 := Lib.hid hS4'
    have Hf4 := Lib.hid hf4'
    have Hlen4 := Lib.hid hlen4
    clear hS4' hf4' hlen4
    have hme := Hen.out w4 ⟨mm, (cellOf hb7 hgl).trans Hmm.out⟩
    have Hme := Lib.hid hme
    clear hme Hen
    have hb4l' := hb4l
    go_wp2_with fail
    refine Hme.out.mono ?_
    rintro e w5 ⟨⟨a, b, rfl, hab⟩, hb8⟩
    have hb9 := hb7.trans (hb8.mono hb7.size)
    have hL3 := HL2.out
    rw [Hh0.out] at hL3
    clear z0 HL2 Hh0 Hme
    rcases hen : endsN l[0] with _ | ⟨x, y⟩
    · rw [hen] at hL3
      simp only at hL3
      have HL3 := Lib.hid hL3
      clear hL3 hen hab
      simp only [Option.isSome_none]
      go_wp2_with fail
      go_step3
      go_simp
      subst hQl
      refine landed_goto (by rfl) ?_
      go_wp2_with fail
      try rw [Exit.noGoto_ret]
      go_ret2
      exact ⟨by rw [← HL3.out]; rfl, hb9⟩
    · have hlt := endsN_lt hen
      rw [hen] at hL3 hab
      simp only at hL3
      obtain ⟨rfl, rfl⟩ := hab x y rfl
      have HL3 := Lib.hid hL3
      obtain ⟨hx, hy⟩ := hlt
      have h1 := lt_FF b a hy hx
      have h2 := gt_FF b 1114111 hy (by omega)
      rw [FF_max] at h2
      clear hL3 hen hab
      simp only [Option.isSome_some]
      rcases (by omega : b < a ∨ (¬ b < a ∧ 1114111 < b) ∨ (¬ b < a ∧ ¬ 1114111 < b)) with hc | ⟨hc, hc'⟩ | ⟨hc, hc'⟩
      · have hL4 := HL3.out
        rw [if_pos (.inl hc)] at hL4
        have HL4 := Lib.hid hL4
        rw [decide_eq_true hc] at h1
        clear hL4 HL3 h2
        go_wp2_with fail
        go_step3
        go_simp
        subst hQl
        refine landed_goto (by rfl) ?_
        go_wp2_with fail
        try rw [Exit.noGoto_ret]
        go_ret2
        exact ⟨by rw [← HL4.out]; rfl, hb9⟩
      · have hL4 := HL3.out
        rw [if_pos (.inr hc')] at hL4
        have HL4 := Lib.hid hL4
        rw [decide_eq_false hc] at h1
        rw [decide_eq_true hc'] at h2
        clear hL4 HL3
        go_wp2_with fail
        go_step3
        go_simp
        subst hQl
        refine landed_goto (by rfl) ?_
        go_wp2_with fail
        try rw [Exit.noGoto_ret]
        go_ret2
        exact ⟨by rw [← HL4.out]; rfl, hb9⟩
      · have hL4 := HL3.out
        rw [if_neg (by omega)] at hL4
        rw [decide_eq_false hc] at h1
        rw [decide_eq_false hc'] at h2
        have hnl : n4 = l.length := Hlen4.out.symm
        rcases (by omega : l.length < 2 ∨ (¬ l.length < 2 ∧ 21 < l.length) ∨ (¬ l.length < 2 ∧ ¬ 21 < l.length)) with hd | ⟨hd, hd'⟩ | ⟨hd, hd'⟩
        · rw [if_pos (.inl hd)] at hL4
          have HL4 := Lib.hid hL4
          have hd2 : n4 < 2 := by omega
          clear hL4 HL3 hnl
          go_wp2_with fail
          go_step3
          go_simp
          subst hQl
          refine landed_goto (by rfl) ?_
          go_wp2_with fail
          try rw [Exit.noGoto_ret]
          go_ret2
          exact ⟨by rw [← HL4.out]; rfl, hb9⟩
        · rw [if_pos (.inr hd')] at hL4
          have HL4 := Lib.hid hL4
          have hd2 : ¬ n4 < 2 := by omega
          have hd3 : 21 < n4 := by omega
          clear hL4 HL3 hnl
          go_wp2_with fail
          go_step3
          go_simp
          subst hQl
          refine landed_goto (by rfl) ?_
          go_wp2_with fail
          try rw [Exit.noGoto_ret]
          go_ret2
          exact ⟨by rw [← HL4.out]; rfl, hb9⟩
        · rw [if_neg (by omega)] at hL4
          have HL4 := Lib.hid hL4
          have hd2 : ¬ n4 < 2 := by omega
          have hd3 : ¬ 21 < n4 := by omega
          have hc1 : ¬ c4 = 1 := by omega
          have hc2 : 1 ≤ n4 := by omega
          have hcv1 := run_toInt a hx
          have hcv2 := run_toInt b hy
          clear hL4 HL3 hnl
          go_wp2_with fail
          subst hQl
          rw [landed_ret]
          go_ret2
          rw [← HL4.out]
          refine ⟨⟨w5.heap.size, some ⟨b4, o4 + 1, none⟩, n4 - 1, c4 - 1, rfl, heap_new rfl, ?_, by omega, ?_, hb9.size⟩, hb9.alloc hb9.size _⟩
          · exact (((HS4.out.tail hn4).below hb8).more hb8.size).below ((Below.refl _ w5).alloc (Nat.le_refl _) _)
          · exact Hf4.out.tail hn4 _
end Go.Vir


namespace Go.Vir
open Go Go.RowKit

structure KeepE (O : Nat → Prop) (B0 F : Nat) (A B : World) : Prop where
  size : A.heap.size ≤ B.heap.size
  low : ∀ k : Nat, k < B0 → B.heap[k]? = A.heap[k]?
  data : ∀ (k : Nat) (o : Obj), k < F → ¬ O k → A.heap[k]? = some o → isData o = true → B.heap[k]? = some o
  other : ∀ (k : Nat) (o : Obj), A.heap[k]? = some o → isData o = false → B.heap[k]? = some o
section
variable {O : Nat → Prop} {B0 F : Nat} {A B C : World}
theorem KeepE.refl (O : Nat → Prop) (B0 F : Nat) (A : World) : KeepE O B0 F A A := ⟨Nat.le_refl _, fun _ _ => rfl, fun _ _ _ _ h _ => h, fun _ _ h _ => h⟩
theorem KeepE.trans (h : KeepE O B0 F A B) (k : KeepE O B0 F B C) : KeepE O B0 F A C :=
  ⟨Nat.le_trans h.size k.size, fun i hi => (k.low i hi).trans (h.low i hi), fun i o hF hO hi hd => k.data i o hF hO (h.data i o hF hO hi hd) hd, fun i o hi hd => k.other i o (h.other i o hi hd) hd⟩
theorem KeepE.below (hB : B0 ≤ A.heap.size) (h : Below A.heap.size A B) : KeepE O B0 F A B :=
  ⟨h.size, fun k hk => h.block k (by omega), fun k o _ _ hk _ => (h.block k (Array.getElem?_eq_some_iff.1 hk).1).trans hk, fun k o hk _ => (h.block k (Array.getElem?_eq_some_iff.1 hk).1).trans hk⟩
theorem KeepE.setCell (A : World) {p : Addr} (hp : O p.block ∨ F ≤ p.block) (hB : B0 ≤ p.block) (u : Value) : KeepE O B0 F A (A.setCell p u) :=
  ⟨by simp [World.setCell], fun k hk => Below.heap_setCell _ _ _ _ (by omega), fun k o hk ho hi _ => (Below.heap_setCell _ _ _ _ (fun e => by
      subst e
      rcases hp with h | h
      · exact ho h
      · omega)).trans hi, fun k o hk hd => by
    by_cases e : k = p.block
    · subst e
      simp only [World.setCell, Array.getElem?_modify, if_true, hk, Option.map_some]
      cases o <;> first | rfl | (simp [isData] at hd)
    · exact (Below.heap_setCell _ _ _ _ e).trans hk⟩
theorem KeepE.grown {row : Option Nat} (hB : B0 ≤ A.heap.size) (hg : A.grownBy B row)
    (hr : ∀ k, row = some k → B0 ≤ k ∧ (O k ∨ F ≤ k) ∧ ∃ o, A.heap[k]? = some o ∧ isData o = true) : KeepE O B0 F A B :=
  ⟨hg.size, fun k hk => hg.block k (by omega) (fun e => by have := (hr k e.symm).1; omega),
   fun k o hk ho hi _ => (hg.block k (Array.getElem?_eq_some_iff.1 hi).1 (fun e => by
     rcases (hr k e.symm).2.1 with h | h
     · exact ho h
     · omega)).trans hi,
   fun k o hk hd => (hg.block k (Array.getElem?_eq_some_iff.1 hk).1 (fun e => by
     obtain ⟨_, _, o', h1, h2⟩ := hr k e.symm
     rw [hk] at h1; cases h1; rw [hd] at h2; cases h2)).trans hk⟩
theorem KeepE.any (h : KeepE O B0 F A B) : KeepE (fun _ => True) 0 0 A B := ⟨h.size, fun k hk => absurd hk (by omega), fun k _ hk => absurd hk (by omega), h.other⟩
theorem KeepE.cell (h : KeepE O B0 F A B) {k o : Nat} {v : Value} (hk : k < F) (ho : ¬ O k) (hc : A.cell? ⟨k, o, none⟩ = some v) : B.cell? ⟨k, o, none⟩ = some v := by
  rcases hb : A.heap[k]? with _ | ob
  · simp [World.cell?, hb] at hc
  · cases ob with
    | cells cs t m => exact (World.cell?_of_block (a := ⟨k, o, none⟩) ((h.data k _ hk ho hb rfl).trans hb.symm)).trans hc
    | _ => simp [World.cell?, hb] at hc
end

def IterE (P : Program) (gf : Nat) (lb : Array Value) (N : Nat) (Rd : Nat → World → Prop) (Ev : Nat → Array Value → World → World → Prop) (M : World → World → Prop) (O : Nat → Prop) (B0 : Nat) (W0 : World) : Prop :=
  ∀ (l : Nat) (J : Nat → Nat → World → Prop) (Jx : Nat → World → Prop) (W : World), Below W0.heap.size W0 W →
    (∀ F i A, J F i A → Rd i A) → (∀ F i A B, J F i A → M A B → J F i B) →
    (∀ F i xs A W', i < N → W.heap.size ≤ F → F ≤ A.heap.size → J F i A → M A W' → Ev i xs A W' → YieldAt Fence.wide 0 P l xs W' fun e W'' =>
      (e = .returned (.bool true) ∧ J F (i + 1) W'' ∧ KeepE O B0 F W' W'') ∨ (e = .returned (.bool false) ∧ Jx i W'')) →
    (∀ F, W.heap.size ≤ F → J F 0 W) → CallsIn Fence.wide 0 P gf (#[.func (.yield l) #[] #[]] ++ lb) W fun e W' => (∃ v, e = .returned v) ∧ ((∃ F, J F N W') ∨ ∃ i, i < N ∧ Jx i W')

def roundE (O : Nat → Prop) (B0 F : Nat) (I : Nat → Nat → World → Prop) (Ix : Nat → Code → World → Prop) (i : Nat) (W : World) : Exit → Act → World → Prop
  | .normal, _, W' => KeepE O B0 F W W' ∧ I F (i + 1) W'
  | .ret, _, W' => KeepE (fun _ => True) 0 0 W W' ∧ Ix i .ret W'
  | .exit id, _, W' => KeepE (fun _ => True) 0 0 W W' ∧ Ix i (.exit id) W'
  | .goto t, _, W' => KeepE (fun _ => True) 0 0 W W' ∧ Ix i (.goto t) W'
  | .panic _, _, _ => False
  | .outgrown, _, _ => False

theorem range_lawE {P : Program} {g : Operand} {ps : Array Tmp} {assign body : Code} {Q : Exit → Act → World → Prop} {a : Act} {w : World}
    {gf : Nat} {lb : Array Value} {N : Nat} {Rd : Nat → World → Prop} {Ev : Nat → Array Value → World → World → Prop} {M : World → World → Prop} {O : Nat → Prop} {B0 : Nat} {W0 : World}
    (hg : a.eval g = .func (.func gf) #[] lb) (eg : ∀ args w, (callFunc gf args).run P w = .ok (.enter gf args) w)
    (hit : IterE P gf lb N Rd Ev M O B0 W0) (hb0 : Below W0.heap.size W0 w) (hB0 : B0 ≤ w.heap.size)
    (hM : ∀ A B, M A B → ∀ (k : Nat) (o : Obj), A.heap[k]? = some o → isData o = false → B.heap[k]? = some o)
    (hMs : ∀ A B, M A B → A.heap.size ≤ B.heap.size) (hps : ∀ i xs A W, Ev i xs A W → xs.size = ps.size)
    (I : Nat → Nat → World → Prop) (Ix : Nat → Code → World → Prop) (Ib : Nat → Nat → Act → World → Prop)
    (hIR : ∀ F i A, I F i A → Rd i A) (hIM : ∀ F i A B, I F i A → M A B → I F i B)
    (hIP : ∀ F i A l o o', w.heap.size ≤ l → l < F → A.heap[l]? = some o → isData o = false → I F i A → I F i (A.putObj l o'))
    (hIbP : ∀ F i a A l o o', w.heap.size ≤ l → l < F → A.heap[l]? = some o → isData o = false → Ib F i a A → Ib F i a (A.putObj l o'))
    (hIxP : ∀ i c A l o o', w.heap.size ≤ l → A.heap[l]? = some o → isData o = false → Ix i c A → Ix i c (A.putObj l o'))
    (h0 : ∀ F W, w.heap.size + 2 ≤ F → Below w.heap.size w W → I F 0 W)
    (hassign : ∀ (l F i : Nat) (xs : Array Value) (A W : World) (K : Act → World → Prop), i < N → w.heap.size + 2 ≤ F → F ≤ A.heap.size → I F i A → M A W → Ev i xs A W → w.heap.size ≤ W.heap.size → (∀ a' W', Below W.heap.size W W' → Ib F i a' W' → K a' W') →
      assign.wpIn (Fence.wide.inRound l) 0 P (Exit.then K (fun _ _ _ => False)) { tmps := (ps.zip xs).foldl (fun t (p, v) => t.setIfInBounds p v) a.tmps, defers := [] } W)
    (hbody : ∀ (l F i : Nat) (a' : Act) (W : World), i < N → w.heap.size + 2 ≤ F → F ≤ W.heap.size → Ib F i a' W → w.heap.size ≤ W.heap.size → body.wpIn (Fence.wide.inRound l) 0 P (roundE O B0 F I Ix i W) a' W)
    (hdone : ∀ (D F : Nat) (W : World), w.heap.size ≤ D → I F N W → W.heap[D]? = some (.deferred (some [])) → Q .normal { a with defers := { target := .collected D, args := #[] } :: a.defers } W)
    (hstop : ∀ (D i : Nat) (c : Code) (W : World), w.heap.size ≤ D → i < N → Ix i c W → W.heap[D]? = some (.deferred (some [])) → c.wpIn Fence.wide 0 P Q { a with defers := { target := .collected D, args := #[] } :: a.defers } W) :
    (Code.rangeFunc g ps assign body).wpIn Fence.wide 0 P Q a w := by
  refine wpIn_rangeFunc ?_
  intro fn hfn
  obtain ⟨rec, hrec⟩ : ∃ rec : LoopState → Option Code → Loop, rec = fun st pe => { state := st, pending := pe, fn, tmps := a.tmps, params := ps, assign, body, defers := w.heap.size } := ⟨_, rfl⟩
  obtain ⟨W1, hW1⟩ : ∃ W1, (w.alloc (.deferred (some []))).alloc (.loop (rec .ready none)) = W1 := ⟨_, rfl⟩
  have hL1 : W1.heap[w.heap.size + 1]? = some (.loop (rec .ready none)) := by
    rw [← hW1]; have := World.alloc_heap_new (w.alloc (.deferred (some []))) (.loop (rec .ready none)); rwa [World.size_alloc] at this
  have hK1 : W1.heap[w.heap.size]? = some (.deferred (some [])) := by
    rw [← hW1]; exact (Below.heap_alloc _ _ _ (by simp)).trans (World.alloc_heap_new w _)
  have hsz : W1.heap.size = w.heap.size + 2 := by rw [← hW1]; simp
  have hbw : Below w.heap.size w W1 := by rw [← hW1]; exact ((Below.refl _ w).alloc (Nat.le_refl _) _).alloc (by simp) _
  have hb1 : Below W0.heap.size W0 W1 := hb0.trans (hbw.mono hb0.size)
  refine ⟨w.heap.size + 1, [{ target := .collected w.heap.size, args := #[] }], W1, { target := .fn (.func gf) lb, args := #[.func (.yield (w.heap.size + 1)) #[] #[]] }, W1, gf,
    #[.func (.yield (w.heap.size + 1)) #[] #[]] ++ lb, W1, ?_, ?_, ?_, ?_, fun _ => by simp [Fence.wide] at *, ?_⟩
  · rw [← hW1, hrec]; exact run_enterLoop_outer _ _ _ _ _
  · simp only [resolve, hg]
    simp [go_sem]
  · intro f' _; trivial
  · simp [invoke, go_sem, eg]
  · refine (hit (w.heap.size + 1)
      (fun F i W => w.heap.size + 2 ≤ F ∧ w.heap.size + 2 ≤ W.heap.size ∧ I F i W ∧ W.heap[w.heap.size + 1]? = some (.loop (rec .ready none)) ∧ W.heap[w.heap.size]? = some (.deferred (some [])))
      (fun i W => ∃ c, Ix i c W ∧ W.heap[w.heap.size + 1]? = some (.loop (rec .done (some c))) ∧ W.heap[w.heap.size]? = some (.deferred (some [])))
      W1 hb1 ?_ ?_ ?_ ?_).mono ?_
    · rintro F i A ⟨_, _, h1, _⟩
      exact hIR _ _ _ h1
    · rintro F i A B ⟨h0, h1, h2, h3, h4⟩ hm
      have h5 := hM _ _ hm _ _ h3 rfl
      exact ⟨h0, by have := (Array.getElem?_eq_some_iff.1 h5).1; omega, hIM _ _ _ _ h2 hm, h5, hM _ _ hm _ _ h4 rfl⟩
    · rintro F i xs Ao Wo hi hWF hFW ⟨hF, hsza, hi0, hla, hka⟩ hmo hev
      have hlo := hM _ _ hmo _ _ hla rfl
      have hko := hM _ _ hmo _ _ hka rfl
      have hszo := hMs _ _ hmo
      have hlto : w.heap.size + 1 < Wo.heap.size := (Array.getElem?_eq_some_iff.1 hlo).1
      have hy := run_yield (P := P) (args := xs) hlo (by rw [hrec]; exact hps i _ _ _ hev)
      rw [hrec] at hy
      refine ⟨fn, _, assign, body, hy, roundIn_of_wpIn hfn (hassign _ F i xs Ao Wo _ hi hF hFW hi0 hmo hev (by omega) (fun a' W hbw hib => ?_))⟩
      have hl := (hbw.block _ hlto).trans hlo
      have hk := (hbw.block _ (show w.heap.size < Wo.heap.size by omega)).trans hko
      have hlt : w.heap.size + 1 < W.heap.size := (Array.getElem?_eq_some_iff.1 hl).1
      have hkw : KeepE O B0 F Wo W := KeepE.below (by omega) hbw
      refine ⟨_, run_beginRound hl (by rw [hrec]), ?_⟩
      have hl2 : (W.putObj (w.heap.size + 1) (.loop { rec .ready none with state := .busy })).heap[w.heap.size + 1]? = some (.loop { rec .ready none with state := .busy }) := World.putObj_heap_same hlt
      have hk2 : (W.putObj (w.heap.size + 1) (.loop { rec .ready none with state := .busy })).heap[w.heap.size]? = some (.deferred (some [])) := (World.putObj_heap_other (by omega)).trans hk
      refine wpIn_mono (hbody _ F i a' _ hi hF (by have := hbw.size; simp; omega) (hIbP _ _ _ _ _ _ _ (by omega) (by omega) hl rfl hib) (by simp; omega)) ?_
      have fin : ∀ (jump : Option Code) (W3 : World), KeepE (fun _ => True) 0 0 (W.putObj (w.heap.size + 1) (.loop { rec .ready none with state := .busy })) W3 →
          (Instr.endRound (w.heap.size + 1) jump).run P W3 = .ok (.bool jump.isNone) (W3.putObj (w.heap.size + 1) (.loop (rec (if jump.isNone then .ready else .done) jump))) ∧
          W3.heap[w.heap.size + 1]? = some (.loop { rec .ready none with state := .busy }) ∧
          (W3.putObj (w.heap.size + 1) (.loop (rec (if jump.isNone then .ready else .done) jump))).heap[w.heap.size + 1]? = some (.loop (rec (if jump.isNone then .ready else .done) jump)) ∧
          (W3.putObj (w.heap.size + 1) (.loop (rec (if jump.isNone then .ready else .done) jump))).heap[w.heap.size]? = some (.deferred (some [])) := fun jump W3 hk3 => by
        have hl3 := hk3.other _ _ hl2 rfl
        have := run_endRound (P := P) jump hl3
        rw [hrec] at this ⊢
        exact ⟨this, by rw [hrec] at hl3; exact hl3, World.putObj_heap_same (Array.getElem?_eq_some_iff.1 hl3).1, (World.putObj_heap_other (by omega)).trans (hk3.other _ _ hk2 rfl)⟩
      rintro e a3 W3 hp
      cases e with
      | normal =>
        obtain ⟨hk3, hi3⟩ := hp
        obtain ⟨hr, hl3, hl4, hk4⟩ := fin none W3 hk3.any
        have hs3 : w.heap.size + 1 < W3.heap.size := (Array.getElem?_eq_some_iff.1 hl3).1
        refine ⟨_, _, hr, .inl ⟨rfl, ⟨hF, by simp; omega, hIP _ _ _ _ _ _ (by omega) (by omega) hl3 rfl hi3, hl4, hk4⟩, hkw.trans ?_⟩⟩
        refine ⟨by have := hk3.size; simp at this ⊢; omega, fun k hk => ?_, fun k o hkF hO ho hd => ?_, fun k o ho hd => ?_⟩
        · rw [World.putObj_heap_other (by omega), hk3.low k hk, World.putObj_heap_other (by omega)]
        · have e : k ≠ w.heap.size + 1 := by
            rintro rfl
            rw [hl] at ho; cases ho; simp [isData] at hd
          rw [World.putObj_heap_other e]
          exact hk3.data k o hkF hO (by rw [World.putObj_heap_other e]; exact ho) hd
        · by_cases e : k = w.heap.size + 1
          · subst e; rw [hl] at ho; cases ho; exact hl4
          · rw [World.putObj_heap_other e]
            exact hk3.other k o (by rw [World.putObj_heap_other e]; exact ho) hd
      | ret =>
        obtain ⟨hk3, hi3⟩ := hp
        obtain ⟨hr, hl3, hl4, hk4⟩ := fin (some .ret) W3 hk3
        exact ⟨_, _, hr, .inr ⟨rfl, .ret, hIxP _ _ _ _ _ _ (by omega) hl3 rfl hi3, hl4, hk4⟩⟩
      | exit id =>
        obtain ⟨hk3, hi3⟩ := hp
        obtain ⟨hr, hl3, hl4, hk4⟩ := fin (some (.exit id)) W3 hk3
        exact ⟨_, _, hr, .inr ⟨rfl, .exit id, hIxP _ _ _ _ _ _ (by omega) hl3 rfl hi3, hl4, hk4⟩⟩
      | goto t =>
        obtain ⟨hk3, hi3⟩ := hp
        obtain ⟨hr, hl3, hl4, hk4⟩ := fin (some (.goto t)) W3 hk3
        exact ⟨_, _, hr, .inr ⟨rfl, .goto t, hIxP _ _ _ _ _ _ (by omega) hl3 rfl hi3, hl4, hk4⟩⟩
      | panic ch => exact hp.elim
      | outgrown => exact hp.elim
    · exact fun F hF => ⟨by omega, by omega, h0 F W1 (by omega) hbw, hL1, hK1⟩
    · rintro e W2 ⟨⟨v, rfl⟩, (⟨F, hF2, _, hi, hl, hk⟩ | ⟨i, hiN, c, hi, hl, hk⟩)⟩
      · exact ⟨none, _, by have := run_endLoop (P := P) hl (by rw [hrec]; simp); rw [hrec] at this; exact this, hdone _ F _ (Nat.le_refl _) (hIP _ _ _ _ _ _ (by omega) (by omega) hl rfl hi) ((World.putObj_heap_other (by omega)).trans hk)⟩
      · exact ⟨some c, _, by have := run_endLoop (P := P) hl (by rw [hrec]; simp); rw [hrec] at this; exact this, hstop _ i c _ (Nat.le_refl _) hiN (hIxP _ _ _ _ _ _ (by omega) hl rfl hi) ((World.putObj_heap_other (by omega)).trans hk)⟩

end Go.Vir

