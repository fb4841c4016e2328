/- Joined texts: MapS, WkH, WkK, WkI, WkJ, Text, Strs, Round, Held, WkL. -/
import Derived.Test.YthkgnhfhjhcecaaGreatDoorBa
import Derived.Test.YthkgnhfhjhcecaaGreatDoorShelf
import Derived.OwnWalkIn
import Derived.Deep.Cut
import Derived.BigQuiet
import Derived.Laws.BitsAllLaws
import Derived.Lib.Split
import Derived.Lib.Join
import Derived.Lib.Repeat
import Derived.Lib.TrimByte
import Derived.StillTailTactics
import Derived.OrdersIn
import Derived.OrdersHeld
/- Maps from strings to ints, as lists of pairs. No program. -/
namespace Go.Vir
open Go Go.RowKit

abbrev KV := List (List UInt8 × Int)

def strV (k : List UInt8) : Value := .string ⟨k.toArray⟩

/-- The entries are these pairs, in this order. -/
def Asc (es : Array MapEntry) (kvs : KV) : Prop := es.toList.map (fun e => (e.key, e.val)) = kvs.map fun x => (strV x.1, Value.int .i64 x.2)

/-- Where a key stands, and its value. -/
def lookKV (k : List UInt8) : KV → Nat → Option (Nat × Int)
  | [], _ => none
  | x :: t, i => if x.1 = k then some (i, x.2) else lookKV k t (i + 1)
/-- A key gets a value. -/
def updKV (k : List UInt8) (v : Int) : KV → KV
  | [] => [(k, v)]
  | x :: t => if x.1 = k then (k, v) :: t else x :: updKV k v t

theorem bytes_eq (a b : List UInt8) : ((⟨a.toArray⟩ : ByteArray) == ⟨b.toArray⟩) = decide (a = b) := by
  show (a.toArray == b.toArray) = decide (a = b)
  rw [Bool.eq_iff_iff, beq_iff_eq, decide_eq_true_eq]
  exact ⟨fun h => by simpa using h, fun h => by rw [h]⟩

theorem findNow_asc (k : List UInt8) : ∀ (l : List MapEntry) (kvs : KV) (i : Nat), l.map (fun e => (e.key, e.val)) = kvs.map (fun x => (strV x.1, Value.int .i64 x.2)) →
    Instr.findNow .string (strV k) l i = some ((lookKV k kvs i).map fun x => (x.1, Value.int .i64 x.2))
  | [], [], _, _ => rfl
  | [], _ :: _, _, h => by simp at h
  | _ :: _, [], _, h => by simp at h
  | e :: l, x :: t, i, h => by
    simp only [List.map_cons, List.cons.injEq, Prod.mk.injEq] at h
    obtain ⟨⟨h1, h2⟩, h3⟩ := h
    unfold Instr.findNow
    rw [h1, h2]
    have hs : Instr.sameNow .string (strV k) (strV x.1) = some (decide (x.1 = k)) := by
      show some ((⟨k.toArray⟩ : ByteArray) == ⟨x.1.toArray⟩) = _
      rw [bytes_eq]
      congr 1
      rw [decide_eq_decide]
      exact eq_comm
    rw [hs]
    by_cases hk : x.1 = k
    · simp [hk, lookKV]
    · simp only [hk, decide_false, lookKV, if_false]
      exact findNow_asc k l t (i + 1) h3

theorem lookKV_none {k : List UInt8} : ∀ {kvs : KV} {i : Nat}, lookKV k kvs i = none ↔ kvs.any (fun x => decide (x.1 = k)) = false
  | [], _ => by simp [lookKV]
  | x :: t, i => by
    unfold lookKV
    by_cases hk : x.1 = k
    · simp [hk]
    · simp only [hk, if_false, List.any_cons, decide_false, Bool.false_or]
      exact lookKV_none
theorem lookKV_some {k : List UInt8} : ∀ {kvs : KV} {i j : Nat} {v : Int}, lookKV k kvs i = some (j, v) → ∃ h : j - i < kvs.length, i ≤ j ∧ kvs[j - i] = (k, v)
  | [], _, _, _, h => by simp [lookKV] at h
  | x :: t, i, j, v, h => by
    unfold lookKV at h
    by_cases hk : x.1 = k
    · rw [if_pos hk] at h
      simp only [Option.some.injEq, Prod.mk.injEq] at h
      obtain ⟨rfl, rfl⟩ := h
      exact ⟨by simp, Nat.le_refl _, by simp [← hk]⟩
    · rw [if_neg hk] at h
      obtain ⟨h1, h2, h3⟩ := lookKV_some h
      refine ⟨by simp; omega, by omega, ?_⟩
      have : j - i = (j - (i + 1)) + 1 := by omega
      simp only [this, List.getElem_cons_succ]
      exact h3

theorem updKV_new {k : List UInt8} {v : Int} : ∀ {kvs : KV} {i : Nat}, lookKV k kvs i = none → updKV k v kvs = kvs ++ [(k, v)]
  | [], _, _ => rfl
  | x :: t, i, h => by
    unfold lookKV at h
    by_cases hk : x.1 = k
    · rw [if_pos hk] at h; cases h
    · rw [if_neg hk] at h
      rw [updKV, if_neg hk, updKV_new h]; rfl
theorem updKV_at {k : List UInt8} (v : Int) : ∀ {kvs : KV} {i j : Nat} {u : Int}, lookKV k kvs i = some (j, u) → updKV k v kvs = kvs.set (j - i) (k, v)
  | [], _, _, _, h => by simp [lookKV] at h
  | x :: t, i, j, u, h => by
    unfold lookKV at h
    by_cases hk : x.1 = k
    · rw [if_pos hk] at h
      simp only [Option.some.injEq, Prod.mk.injEq] at h
      obtain ⟨rfl, rfl⟩ := h
      simp [updKV, hk]
    · rw [if_neg hk] at h
      have h2 := (lookKV_some h).2.1
      rw [updKV, if_neg hk, updKV_at v h, show j - i = (j - (i + 1)) + 1 by omega, List.set_cons_succ]

section
variable {P : Program} {t K E : TypeId} {r : Nat} {es : Array MapEntry} {clock : Nat} {w : World} {kvs : KV} {k : List UInt8}

theorem run_look_kv (ok : Bool) (ht : P.underlying t = some (.map K E)) (hk : P.underlying K = some .string) (hz : (zeroValue E).run P w = .ok (.int .i64 0) w) (hb : w.heap[r]? = some (.map es clock)) (ha : Asc es kvs) :
    (Instr.lookup t (.map (some r)) (strV k) ok).run P w = .ok (if ok then .tuple #[.int .i64 (((lookKV k kvs 0).map (·.2)).getD 0), .bool (lookKV k kvs 0).isSome] else .int .i64 (((lookKV k kvs 0).map (·.2)).getD 0)) w := by
  have hf := findNow_asc k es.toList kvs 0 ha
  rcases hl : lookKV k kvs 0 with _ | ⟨i, v⟩
  · rw [hl] at hf
    rw [run_lookup_none ok ht hk rfl hb hz hf]
    rfl
  · rw [hl] at hf
    rw [run_lookup_at ok ht hk rfl hb hf]
    rfl

theorem run_upd_kv (v : Int) (ht : P.underlying t = some (.map K E)) (hk : P.underlying K = some .string) (hb : w.heap[r]? = some (.map es clock)) (ha : Asc es kvs) :
    ∃ es' clock', (Instr.mapUpdate t (.map (some r)) (strV k) (.int .i64 v)).run P w = .ok () (w.putObj r (.map es' clock')) ∧ Asc es' (updKV k v kvs) := by
  have hf := findNow_asc k es.toList kvs 0 ha
  rcases hl : lookKV k kvs 0 with _ | ⟨i, u⟩
  · rw [hl] at hf
    refine ⟨_, _, run_insert_new ht hk rfl hb hf, ?_⟩
    unfold Asc at ha ⊢
    rw [Array.toList_push, List.map_append, ha, updKV_new hl, List.map_append]
    rfl
  · rw [hl] at hf
    obtain ⟨h1, h2, h3⟩ := lookKV_some hl
    simp only [Nat.sub_zero] at h1 h3
    have hlen : es.toList.length = kvs.length := by
      have := congrArg List.length ha
      simpa using this
    have hes : (es[i]?).map (·.key) = some (strV k) := by
      have h4 : (es.toList.map (fun e => (e.key, e.val)))[i]? = some (strV k, Value.int .i64 u) := by
        rw [ha, List.getElem?_map, List.getElem?_eq_getElem h1, h3]; rfl
      rw [List.getElem?_map] at h4
      rw [← Array.getElem?_toList]
      cases hh : es.toList[i]? with
      | none => rw [hh] at h4; cases h4
      | some e => rw [hh] at h4; simp only [Option.map_some, Option.some.injEq, Prod.mk.injEq] at h4; simp [h4.1]
    have hkey : ((es[i]?).map (·.key)).getD (strV k) = strV k := by rw [hes]; rfl
    have hsame : Instr.sameBits 10000 (strV k) (strV k) = true := by
      show ((⟨k.toArray⟩ : ByteArray) == ⟨k.toArray⟩) = true
      rw [bytes_eq]; simp
    refine ⟨es.modify i fun e => { e with key := strV k, val := .int .i64 v }, clock, ?_, ?_⟩
    · unfold Instr.mapUpdate
      simp only [Sem.run_bind, run_underlying ht, Result.andThen, run_getMap hb, run_checkKey false hk rfl, run_findKey hk hf, Option.map_some, hkey, Instr.keyThatStays, hsame, if_true, Sem.run_pure, run_setMap _ hb]
    · unfold Asc
      have hu := updKV_at v hl
      simp only [Nat.sub_zero] at hu
      rw [hu]
      apply List.ext_getElem?
      intro j
      have hj : (es.toList.map (fun e => (e.key, e.val)))[j]? = (kvs.map fun x => (strV x.1, Value.int .i64 x.2))[j]? := by rw [ha]
      rw [List.getElem?_map, List.getElem?_map] at hj
      rw [List.getElem?_map, List.getElem?_map, Array.toList_modify, List.getElem?_modify, List.getElem?_set]
      by_cases hij : i = j
      · subst hij
        rw [if_pos rfl, if_pos h1]
        cases hh : es.toList[i]? with
        | none => rw [List.getElem?_eq_none_iff] at hh; omega
        | some e => simp
      · rw [if_neg hij]
        simpa [hij] using hj
end

/-- The value of a key. -/
def valKV (k : List UInt8) : KV → Option Int
  | [] => none
  | x :: t => if x.1 = k then some x.2 else valKV k t
theorem look_val (k : List UInt8) : ∀ (kvs : KV) (i : Nat), (lookKV k kvs i).map (·.2) = valKV k kvs
  | [], _ => rfl
  | x :: t, i => by
    unfold lookKV valKV
    by_cases hk : x.1 = k
    · simp [hk]
    · simp only [hk, if_false]; exact look_val k t (i + 1)
theorem valKV_upd (k : List UInt8) (v : Int) (k' : List UInt8) : ∀ kvs : KV, valKV k' (updKV k v kvs) = if k = k' then some v else valKV k' kvs
  | [] => by simp [updKV, valKV]
  | x :: t => by
    unfold updKV
    by_cases hk : x.1 = k
    · simp only [hk, if_true, valKV]
      by_cases h2 : k = k'
      · simp [h2]
      · simp [h2]
    · simp only [hk, if_false, valKV]
      rw [valKV_upd k v k' t]
      by_cases h2 : x.1 = k'
      · have : ¬ k = k' := fun h => hk (by rw [h2, h])
        simp [h2, this]
      · simp [h2]
theorem length_upd (k : List UInt8) (v : Int) : ∀ kvs : KV, (updKV k v kvs).length = if (valKV k kvs).isSome then kvs.length else kvs.length + 1
  | [] => by simp [updKV, valKV]
  | x :: t => by
    unfold updKV valKV
    by_cases hk : x.1 = k
    · simp [hk]
    · simp only [hk, if_false, List.length_cons, length_upd k v t]
      split <;> rfl

/-- The names by their values, the first ones counting: built from behind. -/
def kvOf : List (List UInt8) → Nat → KV
  | [], _ => []
  | s :: t, i => updKV s i (kvOf t (i + 1))
/-- Which value a name has: the first place at which it stands. -/
def valB (k : List UInt8) : List (List UInt8) → Nat → Option Int
  | [], _ => none
  | s :: t, i => if s = k then some (i : Int) else valB k t (i + 1)
theorem valKV_kvOf (k : List UInt8) : ∀ (ss : List (List UInt8)) (i : Nat), valKV k (kvOf ss i) = valB k ss i
  | [], _ => rfl
  | s :: t, i => by
    rw [kvOf, valKV_upd, valKV_kvOf k t (i + 1), valB]
theorem valB_isSome (k : List UInt8) : ∀ (ss : List (List UInt8)) (i : Nat), (valB k ss i).isSome = decide (k ∈ ss)
  | [], _ => by simp [valB]
  | s :: t, i => by
    unfold valB
    by_cases hk : s = k
    · simp [hk]
    · simp only [hk, if_false, valB_isSome k t (i + 1), List.mem_cons]
      rw [decide_eq_decide]
      constructor
      · exact .inr
      · rintro (h | h)
        · exact absurd h.symm hk
        · exact h
theorem length_kvOf : ∀ (ss : List (List UInt8)) (i : Nat), (kvOf ss i).length ≤ ss.length ∧ ((kvOf ss i).length = ss.length ↔ ss.Nodup)
  | [], _ => by simp [kvOf]
  | s :: t, i => by
    obtain ⟨h1, h2⟩ := length_kvOf t (i + 1)
    rw [kvOf, length_upd, valKV_kvOf, valB_isSome, List.nodup_cons]
    by_cases hs : s ∈ t
    · simp only [hs, decide_true, if_true, List.length_cons, not_true, false_and, iff_false]
      omega
    · simp only [hs, decide_false, Bool.false_eq_true, if_false, List.length_cons, not_false_eq_true, true_and]
      rw [← h2]
      omega
theorem size_asc {es : Array MapEntry} {kvs : KV} (h : Asc es kvs) : es.size = kvs.length := by
  have := congrArg List.length h
  simpa using this
theorem kvOf_drop (ss : List (List UInt8)) (j : Nat) (h : j < ss.length) : kvOf (ss.drop j) j = updKV ss[j] j (kvOf (ss.drop (j + 1)) (j + 1)) := by
  rw [List.drop_eq_getElem_cons h, kvOf]

theorem wpListIn_upd_kv {F : Fence} {n : Nat} {P : Program} {t K E : TypeId} {r : Nat} {es : Array MapEntry} {clock : Nat} {w : World} {kvs : KV} {k : List UInt8} {v : Int}
    {ops : Array Oper} {rest : List Oper} {o : Oper} {a : Act} {Q : Exit → Act → World → Prop} (hg : o.guard = none) {m kk x : Operand} (hop : o.op = .mapUpdate t m kk x)
    (hm : a.eval m = .map (some r)) (hkv : a.eval kk = strV k) (hxv : a.eval x = .int .i64 v)
    (ht : P.underlying t = some (.map K E)) (hk : P.underlying K = some .string) (hb : w.heap[r]? = some (.map es clock)) (ha : Asc es kvs)
    (h : ∀ es' clock', Asc es' (updKV k v kvs) → wpListIn F n P ops Q rest (a.put o.dst undef) (w.putObj r (.map es' clock'))) : wpListIn F n P ops Q (o :: rest) a w := by
  obtain ⟨es', clock', hrun, h1⟩ := run_upd_kv (P := P) (t := t) (k := k) v ht hk hb ha
  refine wpListIn_plain hg fun Kn hK => ?_
  unfold Oper.wpIn
  refine ⟨?_, ?_⟩
  · simp [Oper.about, hop]
  · rw [Oper.semAt_plain F _ _ (by rw [hop]; intro c hc'; cases hc')]
    simp only [execOp, hop, hm, hkv, hxv, Sem.run_bind, hrun, Result.andThen]
    exact hK _ _ (h es' clock' h1)

theorem wpList_upd_kv {P : Program} {t K E : TypeId} {r : Nat} {es : Array MapEntry} {clock : Nat} {w : World} {kvs : KV} {k : List UInt8} {v : Int}
    {ops : Array Oper} {rest : List Oper} {o : Oper} {a : Act} {Q : Exit → Act → World → Prop} (hg : o.guard = none) {m kk x : Operand} (hop : o.op = .mapUpdate t m kk x)
    (hm : a.eval m = .map (some r)) (hkv : a.eval kk = strV k) (hxv : a.eval x = .int .i64 v)
    (ht : P.underlying t = some (.map K E)) (hk : P.underlying K = some .string) (hb : w.heap[r]? = some (.map es clock)) (ha : Asc es kvs)
    (h : ∀ es' clock', Asc es' (updKV k v kvs) → wpList P ops Q rest (a.put o.dst undef) (w.putObj r (.map es' clock'))) : wpList P ops Q (o :: rest) a w := by
  obtain ⟨es', clock', hrun, h1⟩ := run_upd_kv (P := P) (t := t) (k := k) v ht hk hb ha
  refine wpList_plain hg fun Kn hK => ?_
  unfold Oper.wp
  simp only [execOp, hop, hm, hkv, hxv, Sem.run_bind, hrun, Result.andThen]
  exact hK _ _ (h es' clock' h1)

/-- The names by their values, built from ahead. -/
def kvF (ss : List (List UInt8)) : Nat → KV
  | 0 => []
  | k + 1 => updKV (ss.getD k []) (k : Int) (kvF ss k)
theorem kvF_succ (ss : List (List UInt8)) (k : Nat) (h : k < ss.length) : kvF ss (k + 1) = updKV ss[k] (k : Int) (kvF ss k) := by
  simp [kvF, List.getD_eq_getElem?_getD, h]
theorem valKV_kvF (k : List UInt8) (ss : List (List UInt8)) (hn : ss.Nodup) : ∀ n, n ≤ ss.length → valKV k (kvF ss n) = valB k (ss.take n) 0
  | 0, _ => by simp [kvF, valKV, valB]
  | n + 1, h => by
    rw [kvF_succ ss n (by omega), valKV_upd, valKV_kvF k ss hn n (by omega), List.take_succ_eq_append_getElem (by omega)]
    have hap : ∀ (l : List (List UInt8)) (x : List UInt8) (i : Nat), x ∉ l → valB k (l ++ [x]) i = if x = k then some ((i + l.length : Nat) : Int) else valB k l i := by
      intro l
      induction l with
      | nil => intro x i _; simp [valB]
      | cons y t ih =>
        intro x i hx
        simp only [List.mem_cons, not_or] at hx
        simp only [List.cons_append, valB]
        by_cases hy : y = k
        · have : ¬ x = k := fun e => hx.1 (by rw [e, hy])
          simp [hy, this]
        · simp only [hy, if_false]
          rw [ih x (i + 1) hx.2, List.length_cons, show i + 1 + t.length = i + (t.length + 1) by omega]
    have hx : ss[n] ∉ ss.take n := by
      intro hm
      obtain ⟨j, hj, he⟩ := List.getElem_of_mem hm
      rw [List.getElem_take] at he
      rw [List.length_take] at hj
      have := (List.nodup_iff_pairwise_ne.1 hn)
      have h2 := List.pairwise_iff_getElem.1 this j n (by omega) (by omega) (by omega)
      exact h2 he
    rw [hap _ _ _ hx, List.length_take, show 0 + min n ss.length = n by omega]
theorem valB_range (k : List UInt8) : ∀ (ss : List (List UInt8)) (i : Nat) (v : Int), valB k ss i = some v → ∃ j : Nat, v = ((i + j : Nat) : Int) ∧ j < ss.length
  | [], _, _, h => by simp [valB] at h
  | s :: t, i, v, h => by
    unfold valB at h
    by_cases hk : s = k
    · rw [if_pos hk] at h; cases h; exact ⟨0, rfl, by simp⟩
    · rw [if_neg hk] at h
      obtain ⟨j, h1, h2⟩ := valB_range k t (i + 1) v h
      exact ⟨j + 1, by omega, by simpa using h2⟩
end Go.Vir

/- The walks of prop: of, areNames, Names. -/
namespace Go.Vir
open Go Go.RowKit Go.Proofs Go.Shelf
attribute [local go_sem] Oper.semAt_some

set_option maxHeartbeats 400000 in
theorem backward_make (A : Option Addr) (n c : Nat) (w : World) :
    Calls Tryz.prog 86 #[.slice A n c] w fun e w' =>
      e = .returned (.func (.func 123) #[] #[.pointer (some ⟨w.heap.size, 0, none⟩)]) ∧ w.alloc (.cells #[.slice A n c] 23) = w' := by
  go_enter Tryz.func86, Tryz.ntmps86
  go_wp2
  go_ret
  exact ⟨rfl, rfl⟩

set_option maxHeartbeats 400000 in
theorem backward_iter (B0 b : Nat) (A : Option Addr) (n c : Nat) (ss : List (List UInt8)) (W0 : World) (hb : B0 ≤ b) (hsz : b < W0.heap.size) (hn : n ≤ 1000000)
    (c0 : W0.heap[b]? = some (.cells #[.slice A n c] 23 (0, 0))) (hz : Strs W0 B0 A n ss) :
    Iter Tryz.prog 123 #[.pointer (some ⟨b, 0, none⟩)] n (fun i => #[.int .i64 ((n - 1 - i : Nat) : Int), strV (ss.getD (n - 1 - i) [])]) (fun k => k = b) B0 W0 := by
  intro l J Jx W hW hJ hJx hY h0
  have hlen := hz.len
  have hW' := hW.mono (show B0 ≤ W0.heap.size by omega)
  have c1 : W.heap[b]? = some (.cells #[.slice A n c] 23 (0, 0)) := (hW.block _ hsz).trans c0
  have e1 : W.cell? ⟨b, 0, none⟩ = some (.slice A n c) := by simp [World.cell?, c1]
  have hz1 := hz.below hW'
  refine callsIn_wide.2 ?_
  go_enter Tryz.func123, Tryz.ntmps123
  go_wp2
  go_loopw [3] (fun v wr => ∃ k : Nat, k ≤ n ∧ v = .int .i64 ((k : Int) - 1) ∧ J (n - k) wr ∧ wr.heap[b]? = some (.cells #[.slice A n c] 23 (0, 0)) ∧ Strs wr B0 A n ss) (fun v _ => (RowKit.intOf v + 1).toNat)
  case atStart => exact ⟨n, Nat.le_refl _, rfl, by simpa using h0, c1, hz1⟩
  case round =>
    obtain ⟨k, hk, rfl, hJk, d0, dz⟩ := hrel
    have d1 : wr.cell? ⟨b, 0, none⟩ = some (.slice A n c) := by simp [World.cell?, d0]
    rcases Nat.eq_zero_or_pos k with h00 | hpos
    · subst h00
      go_wp2
      go_end0
      exact ⟨⟨_, rfl⟩, .inl (by simpa using hJk)⟩
    · obtain ⟨m, rfl⟩ : ∃ m, k = m + 1 := ⟨k - 1, by omega⟩
      obtain ⟨zb, zo, rfl, hzb, hzc⟩ := dz.at_ (by omega)
      have hzm := hzc m (by omega)
      rw [show (((m + 1 : Nat) : Int) - 1) = (m : Int) by omega]
      have hy := hY (n - (m + 1)) wr (by omega) hJk
      rw [show n - 1 - (n - (m + 1)) = m by omega, show ss.getD m [] = ss[m]'(by omega) by simp [List.getD_eq_getElem?_getD, show m < ss.length by omega]] at hy
      obtain ⟨fn, tmps, assign, body, hy, hR⟩ := hy
      generalize hsv : ss[m] = sv at hzm hy
      have hy' := Lib.hid hy
      clear hy hsv hlen
      have hmn : m < n := by omega
      have hdec : decide ((m : Int) < 0) = false := by simp
      have hdec2 : decide (m < n) = true := by simpa using hmn
      go_upto_region 3 with (fail)
      refine (wpIn_wide (n := 0)).1 ?_
      have hy : (Instr.yield l #[.int .i64 (m : Int), .string ⟨sv.toArray⟩]).run Tryz.prog wr = .ok (.round l fn tmps assign body) wr := hy'
      clear hdec hdec2 hy'
      gi_wp2
      refine ⟨rfl, hR.mono ?_⟩
      rintro e W' (⟨rfl, hJ', hk'⟩ | ⟨rfl, hJx'⟩)
      · have f0 : W'.heap[b]? = some (.cells #[.slice (some ⟨zb, zo, none⟩) n c] 23 (0, 0)) := (hk'.own _ (by omega)).trans d0
        have fz : Strs W' B0 (some ⟨zb, zo, none⟩) n ss := ⟨dz.len, fun _ => ⟨zb, zo, rfl, hzb, fun j hj => (World.cell?_of_block (hk'.low zb hzb)).trans (hzc j hj)⟩⟩
        gi_wp2
        go_wp2
        go_roundw
        case rel =>
          exact ⟨m, by omega, rfl, by rw [show n - m = n - (m + 1) + 1 by omega]; exact hJ', f0, fz⟩
        case measure => simp [RowKit.intOf]
      · gi_wp2
        go_wp2
        refine bodyPost_ret (results_none rfl _ _ _) rfl ?_
        exact ⟨⟨_, rfl⟩, .inr ⟨_, by omega, hJx'⟩⟩

/-- The functions ask this of a name. -/
def SaysS (P : Program) (g : Nat) (lb : Array Value) (p : List UInt8 → Bool) (w : World) : Prop :=
  ∀ (x : List UInt8) (W : World), Below w.heap.size w W → x.length ≤ 1000000 → Calls P g (#[strV x] ++ lb) W fun e w' => e = .returned (.bool (p x)) ∧ Below W.heap.size W w'

set_option maxHeartbeats 400000 in
theorem indexFunc_str {g : Nat} {p : List UInt8 → Bool} (A : Option Addr) (n c : Nat) (xs : List (List UInt8)) (w : World)
    (eg : ∀ args w, (callFunc g args).run Tryz.prog w = .ok (.enter g args) w) (hx : Strs w w.heap.size A n xs) (hs : ∀ x ∈ xs, x.length ≤ 1000000)
    (hp : SaysS Tryz.prog g #[] p w) (hn : n ≤ 1000000) :
    Calls Tryz.prog 136 #[.slice A n c, .func (.func g) #[] #[]] w fun e w' => e = .returned (.int .i64 (firstB p xs)) ∧ Below w.heap.size w w' := by
  go_enter Tryz.func136, Tryz.ntmps136
  go_wp2
  have hlen := hx.len
  go_loopw [8] (fun i wr => ∃ k : Nat, k ≤ n ∧ i = .int .i64 k ∧ (∀ (j : Nat) (h : j < k) (h2 : j < xs.length), p xs[j] = false) ∧ Below w.heap.size w wr) (fun i _ => n - (RowKit.intOf i).toNat)
  case atStart => exact ⟨0, Nat.zero_le _, rfl, fun j h => absurd h (by omega), Below.refl _ _⟩
  case round =>
    obtain ⟨k, hk, rfl, hno, hb⟩ := hrel
    rcases Nat.lt_or_ge k n with hlt | hge
    · obtain ⟨zb, zo, rfl, hzb, hzc⟩ := hx.at_ (by omega)
      have z1 := (cellOf hb hzb).trans (hzc k (by omega))
      have hc := hp xs[k] wr hb (hs _ (List.getElem_mem _))
      go_wp2
      refine hc.mono ?_
      rintro e w1 ⟨rfl, hb1⟩
      rcases hpk : p xs[k] with _ | _
      · have hno' : ∀ (j : Nat) (h : j < k + 1) (h2 : j < xs.length), p xs[j] = false := fun j h h2 => by
          rcases Nat.lt_or_ge j k with h3 | h3
          · exact hno j h3 h2
          · obtain rfl : j = k := by omega
            exact hpk
        have hb2 := hb.trans (hb1.mono hb.size)
        clear hno hb hb1 hc hpk
        go_wp2
        go_roundw
        case rel => exact ⟨k + 1, by omega, by go_num, hno', hb2⟩
        case measure => simp [RowKit.intOf]; omega
      · have hf : firstB p xs = k := firstB_hit (by omega) hpk (fun j h => hno j h (by omega))
        have Hf := Lib.hid hf
        clear hf hpk
        go_wp2
        go_ret
        exact ⟨ret_int Hf.out.symm, hb.trans (hb1.mono hb.size)⟩
    · have hf : firstB p xs = -1 := firstB_none (fun j h => hno j (by omega) h)
      have Hf := Lib.hid hf
      clear hf
      go_wp2
      go_ret
      exact ⟨ret_int Hf.out.symm, hb⟩

set_option maxHeartbeats 400000 in
theorem containsFunc_str {g : Nat} {p : List UInt8 → Bool} (A : Option Addr) (n c : Nat) (xs : List (List UInt8)) (w : World)
    (eg : ∀ args w, (callFunc g args).run Tryz.prog w = .ok (.enter g args) w) (hx : Strs w w.heap.size A n xs) (hs : ∀ x ∈ xs, x.length ≤ 1000000)
    (hp : SaysS Tryz.prog g #[] p w) (hn : n ≤ 1000000) :
    Calls Tryz.prog 97 #[.slice A n c, .func (.func g) #[] #[]] w fun e w' => e = .returned (.bool (xs.any p)) ∧ Below w.heap.size w w' := by
  have hc := indexFunc_str A n c xs w eg hx hs hp hn
  rw [← firstB_ge p xs]
  clear eg hx hp
  go_enter Tryz.func97, Tryz.ntmps97
  go_wp2_with (go_at_call 136; refine hc.mono ?_; rintro e w1 ⟨rfl, hb1⟩)
  go_ret
  exact ⟨rfl, hb1⟩

theorem areNames1 (x : List UInt8) (W : World) (hx : x.length ≤ 1000000) :
    Calls Tryz.prog 95 #[strV x] W fun e w' => e = .returned (.bool (!nameB x)) ∧ Below W.heap.size W w' := by
  have hc := prop_isName ⟨x.toArray⟩ W (by show x.toArray.size ≤ _; simpa using hx)
  go_enter Tryz.func95, Tryz.ntmps95
  go_wp2_with (go_at_call 96; refine hc.mono ?_; rintro e w1 ⟨rfl, hb1⟩)
  go_ret
  exact ⟨rfl, hb1⟩

set_option maxHeartbeats 400000 in
theorem prop_of (A : Option Addr) (n c : Nat) (ss : List (List UInt8)) (w : World) (hn : n ≤ 1000000) (hz : Strs w w.heap.size A n ss) :
    Calls Tryz.prog 45 #[.slice A n c] w fun e w' =>
      ∃ r es clock, e = .returned (.agg #[.slice A n c, .map (some r)]) ∧ w'.heap[r]? = some (.map es clock) ∧ Asc es (kvOf ss 0) ∧ Below w.heap.size w w' := by
  have hmm := @run_makeMap Tryz.prog
  have hlen := hz.len
  have Hl := Lib.hid hlen
  clear hlen
  refine (callsIn_wide (n := 0)).1 ?_
  refine callsIn_of_wp_marks Tryz.func45 rfl trivial ?_ rfl
  simp only [Tryz.ntmps45, List.size_toArray, List.length_cons, List.length_nil, Nat.reduceAdd, Nat.reduceSub, Array.replicate_succ, Array.replicate_zero, List.push_toArray, List.append_toArray, List.nil_append, List.cons_append]
  refine wpIn_wide.2 ?_
  go_wp2_with (go_at_call 86; refine (backward_make _ _ _ _).mono ?_; rintro e w1 ⟨rfl, rfl⟩)
  clear hmm
  refine wp_gen ?_
  intro W1 hW1
  have hsz : W1.heap.size = w.heap.size + 4 := by simp [hW1]
  have hb : Below w.heap.size w W1 := by rw [hW1]; go_grown
  have d0 : W1.heap[w.heap.size]? = some (.cells #[.slice none 0 0, .map none] 70 (0, 0)) := (by rw [hW1]; simp (disch := (first | omega | (simp only [World.size_alloc]; done) | (simp only [World.size_alloc]; omega))) only [heap_laws])
  have d1 : W1.heap[w.heap.size + 1]? = some (.map #[] 0) := (by rw [hW1]; simp (disch := (first | omega | (simp only [World.size_alloc]; done) | (simp only [World.size_alloc]; omega))) only [heap_laws])
  have d2 : W1.heap[w.heap.size + 1 + 1]? = some (.cells #[.map (some (w.heap.size + 1))] 68 (0, 0)) := (by rw [hW1]; simp (disch := (first | omega | (simp only [World.size_alloc]; done) | (simp only [World.size_alloc]; omega))) only [heap_laws])
  have d3 : W1.heap[w.heap.size + 1 + 1 + 1]? = some (.cells #[.slice A n c] 23 (0, 0)) := (by rw [hW1]; simp (disch := (first | omega | (simp only [World.size_alloc]; done) | (simp only [World.size_alloc]; omega))) only [heap_laws])
  clear hW1
  refine (wpIn_wide (n := 0)).1 ?_
  refine range_law (a₁ := ?a1) rfl (enters_of Tryz.func123 (by kernel_rfl) rfl) (backward_iter w.heap.size (w.heap.size + 1 + 1 + 1) A n c ss W1 (by omega) (by omega) hn d3 (hz.below hb)) (Below.refl _ _)
    (fun k hk => by omega) (by omega) (fun _ => rfl)
    (fun i W => Below w.heap.size w W ∧ W.heap[w.heap.size]? = some (.cells #[.slice none 0 0, .map none] 70 (0, 0)) ∧ W.heap[w.heap.size + 1 + 1]? = some (.cells #[.map (some (w.heap.size + 1))] 68 (0, 0)) ∧
      ∃ es clock, W.heap[w.heap.size + 1]? = some (.map es clock) ∧ Asc es (kvOf (ss.drop (n - i)) (n - i)))
    (fun i c W => False)
    (fun i X Y hi hm => by
      obtain ⟨h1, h2, h3, es, ck, h4, h5⟩ := hi
      exact ⟨Below.moves h1 hm (Nat.le_refl _) (fun k hk => by omega), hm.cells h2 (by omega), hm.cells h3 (by omega), es, ck, hm.dataObj h4 (by omega), h5⟩)
    (fun i c X Y hi hm => hi)
    ⟨hb, d0, d2, #[], 0, d1, by rw [Nat.sub_zero, ← Hl.out, List.drop_length]; rfl⟩ ?assign ?body ?done ?stop
  case assign =>
    intro l i W K hK
    gi_wp2
    exact hK
  case body =>
    rintro l i W hi ⟨hbW, e0, e2, es, ck, e1, hA⟩ hsW
    have e3 : W.cell? ⟨w.heap.size + 1 + 1, 0, none⟩ = some (.map (some (w.heap.size + 1))) := by simp [World.cell?, e2]
    have hlt : w.heap.size < W.heap.size := by omega
    have hi' : n - 1 - i < ss.length := by rw [Hl.out]; omega
    have hget : ss.getD (n - 1 - i) [] = ss[n - 1 - i] := by simp [List.getD_eq_getElem?_getD, hi']
    have hstep : updKV (ss.getD (n - 1 - i) []) ((n - 1 - i : Nat) : Int) (kvOf (ss.drop (n - i)) (n - i)) = kvOf (ss.drop (n - (i + 1))) (n - (i + 1)) := by
      rw [hget, show n - (i + 1) = n - 1 - i by omega, kvOf_drop ss (n - 1 - i) hi', show n - 1 - i + 1 = n - i by omega]
    have Hs := Lib.hid hstep
    clear hstep hget
    gi_wp2_with (refine wpListIn_upd_kv (kvs := kvOf (ss.drop (n - i)) (n - i)) (k := ss.getD (n - 1 - i) []) (v := ((n - 1 - i : Nat) : Int)) rfl rfl rfl rfl rfl Tryz.underlying68 Tryz.underlying9 e1 hA ?_; intro es' ck' hA')
    rw [Hs.out] at hA'
    refine ⟨Keeps.putData e1 rfl (by show ¬ (_ = _); omega) (by omega), below_putObj hbW (by omega), (World.putObj_heap_other (by omega)).trans e0, (World.putObj_heap_other (by omega)).trans e2, es', ck', World.putObj_heap_same (by omega), hA'⟩
  case done =>
    rintro D W hD ⟨hbW, e0, e2, es, ck, e1, hA⟩ hK
    have e3 : W.cell? ⟨w.heap.size + 1 + 1, 0, none⟩ = some (.map (some (w.heap.size + 1))) := by simp [World.cell?, e2]
    have e4 : W.cell? ⟨w.heap.size, 0, none⟩ = some (.slice none 0 0) := by simp [World.cell?, e0]
    have e5 : W.frozen? ⟨w.heap.size, 0, none⟩ = false := frozen_blk e0 0
    have e6 : W.cell? ⟨w.heap.size, 1, none⟩ = some (.map none) := by simp [World.cell?, e0]
    have e7 : W.frozen? ⟨w.heap.size, 1, none⟩ = false := frozen_blk e0 1
    go_wp2
    obtain ⟨V, hV⟩ : ∃ V, (W.setCell ⟨w.heap.size, 0, none⟩ (.slice A n c)).setCell ⟨w.heap.size, 1, none⟩ (.map (some (w.heap.size + 1))) = V := ⟨_, rfl⟩
    have hne : w.heap.size ≠ D := by omega
    have hne1 : w.heap.size + 1 ≠ D := by omega
    have hD2 : V.heap[D]? = some (.deferred (some [])) := by
      rw [← hV]; exact (Below.heap_setCell _ _ _ _ (Ne.symm hne)).trans ((Below.heap_setCell _ _ _ _ (Ne.symm hne)).trans hK)
    have hc0 : V.heap[w.heap.size]? = some (.cells #[.slice A n c, .map (some (w.heap.size + 1))] 70 (0, 0)) := by
      rw [← hV]; simp [World.setCell, Array.getElem?_modify, e0]
    have hc1 : V.heap[w.heap.size + 1]? = some (.map es ck) := by
      rw [← hV]; exact (Below.heap_setCell _ _ _ _ (Nat.succ_ne_self _)).trans ((Below.heap_setCell _ _ _ _ (Nat.succ_ne_self _)).trans e1)
    have hbV : Below w.heap.size w V := by rw [← hV]; exact (hbW.setCell (by simp) _).setCell (by simp) _
    rw [hV]
    clear hV
    refine ⟨by simp, .inl ⟨_, _, rfl, run_takeDeferred hD2, ?_⟩⟩
    have f0 := cell_blk ((World.putObj_heap_other (o := .deferred none) hne).trans hc0) 0
    have f1 := cell_blk ((World.putObj_heap_other (o := .deferred none) hne).trans hc0) 1
    rw [Nat.sub_self] at hA
    refine ⟨.agg #[.slice A n c, .map (some (w.heap.size + 1))], by simp [results, Tryz.results45, go_sem, f0, f1], w.heap.size + 1, es, ck, rfl, (World.putObj_heap_other hne1).trans hc1, hA, ?_⟩
    exact below_putObj hbV (by omega)
  case stop =>
    rintro D i c W hD hi hx hK
    exact hx.elim

def namesB (ss : List (List UInt8)) : Bool := decide (1 ≤ ss.length) && decide (ss.length ≤ 32) && decide (ss.Nodup) && ss.all nameB

theorem run_len_map {P : Program} {t K E : TypeId} {r : Nat} {es : Array MapEntry} {ck : Nat} {w : World} (ht : P.underlying t = some (.map K E)) (ty : TypeId) (hb : w.heap[r]? = some (.map es ck)) :
    (Builtin.len_ #[t] ty #[.map (some r)]).run P w = .ok (.int .i64 es.size) w := by
  unfold Builtin.len_
  simp [Sem.run_bind, run_underlying ht, run_getMap hb, Result.andThen, goInt]

set_option maxRecDepth 100000 in
set_option maxHeartbeats 400000 in
theorem prop_areNames (A : Option Addr) (n c : Nat) (ss : List (List UInt8)) (r : Nat) (es : Array MapEntry) (ck : Nat) (w : World) (hn : n ≤ 1000000) (hz : Strs w w.heap.size A n ss)
    (hs : ∀ x ∈ ss, x.length ≤ 1000000) (hr : w.heap[r]? = some (.map es ck)) (ha : Asc es (kvOf ss 0)) :
    Calls Tryz.prog 53 #[.agg #[.slice A n c, .map (some r)]] w fun e w' => e = .returned (.bool (namesB ss)) ∧ Below w.heap.size w w' := by
  have hlen := hz.len
  have hsa := size_asc ha
  have hk := length_kvOf ss 0
  have hc : ∀ W, Below w.heap.size w W → Calls Tryz.prog 97 #[.slice A n c, .func (.func 95) #[] #[]] W fun e w' => e = .returned (.bool (ss.any fun x => !nameB x)) ∧ Below W.heap.size W w' :=
    fun W hW => containsFunc_str A n c ss W (enters_of Tryz.func95 (by kernel_rfl) rfl) ((hz.below hW).more hW.size) hs (fun x V hV hx => areNames1 x V hx) hn
  have Hc := Lib.hid hc
  have Hl := Lib.hid hlen
  have Hs := Lib.hid hsa
  have Hk := Lib.hid hk
  have hrs : r < w.heap.size := (Array.getElem?_eq_some_iff.1 hr).1
  have hm1 : es.size < 9223372036854775808 := by omega
  clear hc hlen hsa hk ha hs hz
  have hln : ∀ o, (Builtin.len_ #[68] 3 #[.map (some r)]).run Tryz.prog (w.alloc o) = .ok (.int .i64 es.size) (w.alloc o) :=
    fun o => run_len_map Tryz.underlying68 _ ((heap_old hrs).trans hr)
  go_enter Tryz.func53, Tryz.ntmps53
  go_wp2_with (go_at_call 97; refine (Hc.out _ (by go_grown)).mono ?_; rintro e w1 ⟨rfl, hb1⟩)
  all_goals go_ret
  all_goals refine ⟨ret_bool ?_, ?_⟩
  all_goals try (first | exact Below.trans (by go_grown) (Below.mono hb1 (by simp)) | go_grown)
  all_goals have hl := Hl.out
  all_goals have hs := Hs.out
  all_goals have hk := Hk.out
  · have h2 : ss.Nodup := hk.2.1 (by omega)
    simp [namesB, h2, show 1 ≤ ss.length by omega, show ss.length ≤ 32 by omega, List.all_eq_not_any_not]
  · have h2 : ¬ ss.Nodup := fun h => by have := hk.2.2 h; omega
    simp [namesB, h2]
  · simp [namesB, show ¬ ss.length ≤ 32 by omega]
  · simp [namesB, show ¬ 1 ≤ ss.length by omega]

set_option maxHeartbeats 400000 in
theorem prop_Names (A : Option Addr) (n c : Nat) (ss : List (List UInt8)) (w : World) (hn : n ≤ 1000000) (hz : Strs w w.heap.size A n ss) (hs : ∀ x ∈ ss, x.length ≤ 1000000) :
    Calls Tryz.prog 25 #[.slice A n c] w fun e w' => e = .returned (.bool (namesB ss)) ∧ Below w.heap.size w w' := by
  have hc := prop_of A n c ss w hn hz
  go_enter Tryz.func25, Tryz.ntmps25
  go_wp2_with (first
    | (go_at_call 45; refine hc.mono ?_; rintro e w1 ⟨r, es, ck, rfl, hr, ha, hb1⟩; have hd := prop_areNames A n c ss r es ck w1 hn ((hz.below hb1).more hb1.size) hs hr ha; clear hr ha)
    | (go_at_call 53; refine hd.mono ?_; rintro e w2 ⟨rfl, hb2⟩))
  go_ret
  exact ⟨rfl, hb1.trans (hb2.mono hb1.size)⟩
end Go.Vir

/- class.open. -/
namespace Go.Vir
open Go Go.RowKit Go.Proofs Go.Shelf
attribute [local go_sem] Oper.semAt_some

/-- A reader of names lies here. -/
structure Reader (w : World) (r : Nat) (A : Option Addr) (n c : Nat) (ss : List (List UInt8)) : Prop where
  strs : Strs w w.heap.size A n ss
  at_ : ∃ m es ck, w.heap[r]? = some (.cells #[.slice A n c, .map (some m)] 317 (0, 0)) ∧ w.heap[m]? = some (.map es ck) ∧ Asc es (kvF ss ss.length)
theorem Reader.lt {w : World} {r : Nat} {A : Option Addr} {n c : Nat} {ss : List (List UInt8)} (h : Reader w r A n c ss) : r < w.heap.size := by
  obtain ⟨m, es, ck, h1, _⟩ := h.at_
  exact (Array.getElem?_eq_some_iff.1 h1).1
theorem Reader.below {w w' : World} {r : Nat} {A : Option Addr} {n c : Nat} {ss : List (List UInt8)} (h : Reader w r A n c ss) (hb : Below w.heap.size w w') : Reader w' r A n c ss := by
  obtain ⟨m, es, ck, h1, h2, h3⟩ := h.at_
  exact ⟨(h.strs.below hb).more hb.size, m, es, ck, (hb.block _ (Array.getElem?_eq_some_iff.1 h1).1).trans h1, (hb.block _ (Array.getElem?_eq_some_iff.1 h2).1).trans h2, h3⟩

set_option maxRecDepth 100000 in
set_option maxHeartbeats 800000 in
theorem class_open_yes (A : Option Addr) (n c : Nat) (ss : List (List UInt8)) (w : World) (hn : n ≤ 1000000) (hz : Strs w w.heap.size A n ss) (hs : ∀ x ∈ ss, x.length ≤ 1000000) (hN : namesB ss = true) :
    Calls Tryz.prog 191 #[.slice A n c] w fun e w' => ∃ r, e = .returned (.tuple #[.pointer (some ⟨r, 0, none⟩), .nilIface]) ∧ Reader w' r A n c ss ∧ Below w.heap.size w w' := by
  have hc := prop_Names A n c ss w hn hz hs
  rw [hN] at hc
  have hmm := @run_makeMap Tryz.prog
  have hlen := hz.len
  have Hl := Lib.hid hlen
  clear hlen hN
  go_enter Tryz.func191, Tryz.ntmps191
  go_wp2_with (go_at_call 25; refine hc.mono ?_; rintro e w1 ⟨rfl, hb1⟩)
  refine wp_gen ?_
  intro W1 hW1
  have hsz : W1.heap.size = w1.heap.size + 2 := by simp [hW1]
  have hb : Below w.heap.size w W1 := by rw [hW1]; exact (hb1.alloc hb1.size _).alloc (by simp; have := hb1.size; omega) _
  have d0 : W1.heap[w1.heap.size]? = some (.map #[] 0) := (by rw [hW1]; simp (disch := (first | omega | (simp only [World.size_alloc]; done) | (simp only [World.size_alloc]; omega))) only [heap_laws])
  have d1 : W1.heap[w1.heap.size + 1]? = some (.cells #[.slice A n c, .map (some w1.heap.size)] 317 (0, 0)) := (by rw [hW1]; simp (disch := (first | omega | (simp only [World.size_alloc]; done) | (simp only [World.size_alloc]; omega))) only [heap_laws])
  have hs1 := hb1.size
  clear hW1 hmm hc
  go_loopw [20] (fun i wr => ∃ k, k ≤ n ∧ i = .int .i64 (k : Int) ∧ Below w.heap.size w wr ∧ wr.heap[w1.heap.size + 1]? = some (.cells #[.slice A n c, .map (some w1.heap.size)] 317 (0, 0)) ∧
      ∃ es ck, wr.heap[w1.heap.size]? = some (.map es ck) ∧ Asc es (kvF ss k)) (fun i _ => n - (RowKit.intOf i).toNat)
  case atStart => exact ⟨0, Nat.zero_le _, rfl, hb, d1, #[], 0, d0, rfl⟩
  case round =>
    obtain ⟨k, hk, rfl, hbr, q1, es, ck, q0, hA⟩ := hrel
    have c1 : wr.cell? ⟨w1.heap.size + 1, 1, none⟩ = some (.map (some w1.heap.size)) := by simp [World.cell?, q1]
    rcases Nat.lt_or_ge k n with hlt | hge
    · obtain ⟨zb, zo, rfl, hzb, hzc⟩ := hz.at_ (by omega)
      have hk' : k < ss.length := by rw [Hl.out]; exact hlt
      have z1 := (cellOf hbr hzb).trans (hzc k hk')
      have Hst := Lib.hid (kvF_succ ss k hk')
      generalize hsv : ss[k] = sv at z1 Hst
      clear hsv
      go_wp2_with (refine wpList_upd_kv (kvs := kvF ss k) (k := sv) (v := (k : Int)) rfl rfl rfl rfl rfl Tryz.underlying68 Tryz.underlying9 q0 hA ?_; intro es' ck' hA')
      go_roundw
      case rel =>
        refine ⟨k + 1, by omega, by go_num, below_putObj hbr hs1, (World.putObj_heap_other (by omega)).trans q1, es', ck', World.putObj_heap_same (Array.getElem?_eq_some_iff.1 q0).1, ?_⟩
        rw [Hst.out]; exact hA'
      case measure => simp [RowKit.intOf]; omega
    · obtain rfl : k = n := by omega
      go_wp2
      go_ret2
      refine ⟨_, rfl, ⟨(hz.below hbr).more hbr.size, _, es, ck, q1, q0, ?_⟩, hbr⟩
      rw [Hl.out]; exact hA

set_option maxRecDepth 100000 in
set_option maxHeartbeats 800000 in
theorem class_open_no (A : Option Addr) (n c : Nat) (ss : List (List UInt8)) (te : TypeId) (ve : Value) (w : World) (hn : n ≤ 1000000) (hz : Strs w w.heap.size A n ss) (hs : ∀ x ∈ ss, x.length ≤ 1000000)
    (hg : w.cell? ⟨3, 0, none⟩ = some (.iface te ve)) (hgl : 3 < w.heap.size) (hN : namesB ss = false) :
    Calls Tryz.prog 191 #[.slice A n c] w fun e w' => e = .returned (.tuple #[.pointer none, .iface 282 (.agg #[.int .i64 2, .iface te ve])]) ∧ Below w.heap.size w w' := by
  have hc := prop_Names A n c ss w hn hz hs
  rw [hN] at hc
  go_enter Tryz.func191, Tryz.ntmps191
  go_wp2_with (go_at_call 25; refine hc.mono ?_; rintro e w1 ⟨rfl, hb1⟩; have hg1 := (cellOf hb1 hgl).trans hg)
  go_quiet (fail)
  go_wp2
  go_ret2
  exact ⟨rfl, hb1.trans (below_drewN _ _ _)⟩
end Go.Vir

/- The walks of class: classes, Not. -/
namespace Go.Vir
open Go Go.RowKit Go.Proofs Go.Shelf
attribute [local go_sem] Oper.semAt_some

/-- The classes of a set below a number, rising. -/
def bitsL (s : Int) (n : Nat) : List Int := ((List.range n).filter fun (c : Nat) => bitB s (c : Int)).map fun (c : Nat) => (c : Int)
theorem bitsL_succ (s : Int) (k : Nat) : bitsL s (k + 1) = bitsL s k ++ (if bitB s (k : Int) then [(k : Int)] else []) := by
  unfold bitsL
  rw [List.range_succ, List.filter_append, List.map_append]
  cases h : bitB s (k : Int) <;> simp [h]
theorem bitsL_prefix (s : Int) {k m : Nat} (h : k ≤ m) : bitsL s k <+: bitsL s m := by
  induction m with
  | zero => obtain rfl : k = 0 := by omega
            exact List.prefix_refl _
  | succ m ih =>
    rcases Nat.eq_or_lt_of_le h with h1 | h1
    · rw [h1]; exact List.prefix_refl _
    · rw [bitsL_succ]; exact (ih (by omega)).trans (List.prefix_append _ _)
theorem bitsL_at (s : Int) {k m : Nat} (h : k < m) (hb : bitB s (k : Int) = true) : (bitsL s k).length < (bitsL s m).length ∧ (bitsL s m).getD (bitsL s k).length 0 = (k : Int) := by
  obtain ⟨t, ht⟩ := bitsL_prefix s (show k + 1 ≤ m by omega)
  rw [bitsL_succ, hb, if_pos rfl] at ht
  rw [← ht]
  constructor
  · simp
  · simp [List.getD_eq_getElem?_getD]
theorem bitsL_len (s : Int) (k : Nat) : (bitsL s k).length ≤ k := by
  unfold bitsL
  rw [List.length_map]
  exact Nat.le_trans (List.length_filter_le _ _) (by simp)

theorem classes_make (s : Int) (w : World) :
    Calls Tryz.prog 263 #[.int .i64 s] w fun e w' =>
      e = .returned (.func (.func 280) #[] #[.pointer (some ⟨w.heap.size, 0, none⟩)]) ∧ w.alloc (.cells #[.int .i64 s] 2) = w' := by
  go_enter Tryz.func263, Tryz.ntmps263
  go_wp2
  go_ret
  exact ⟨rfl, rfl⟩

set_option maxHeartbeats 400000 in
theorem classes_iter (B0 b : Nat) (s : Int) (W0 : World) (_hb : B0 ≤ b) (hsz : b < W0.heap.size) (c0 : W0.heap[b]? = some (.cells #[.int .i64 s] 2 (0, 0))) :
    Iter Tryz.prog 280 #[.pointer (some ⟨b, 0, none⟩)] (bitsL s 32).length (fun i => #[.int .i64 ((bitsL s 32).getD i 0)]) (fun k => k = b) B0 W0 := by
  intro l J Jx W hW hJ hJx hY h0
  have c1 : W.heap[b]? = some (.cells #[.int .i64 s] 2 (0, 0)) := (hW.block _ hsz).trans c0
  refine callsIn_wide.2 ?_
  go_enter Tryz.func280, Tryz.ntmps280
  go_step3
  go_wp2
  go_step3
  go_wp2
  go_loopw [4] (fun v wr => ∃ k : Nat, k ≤ 32 ∧ v = .int .i64 (k : Int) ∧ J (bitsL s k).length wr ∧ wr.heap[b]? = some (.cells #[.int .i64 s] 2 (0, 0))) (fun v _ => 32 - (RowKit.intOf v).toNat)
  case atStart => exact ⟨0, by omega, rfl, by simpa [bitsL] using h0, c1⟩
  case round =>
    obtain ⟨k, hk, rfl, hJk, d0⟩ := hrel
    have d1 : wr.cell? ⟨b, 0, none⟩ = some (.int .i64 s) := by simp [World.cell?, d0]
    rcases Nat.lt_or_ge k 32 with hlt | hge
    · rcases hbit : bitB s (k : Int) with _ | _
      · have hs : bitsL s (k + 1) = bitsL s k := by rw [bitsL_succ, hbit]; simp
        have Hs := Lib.hid hs
        clear hs
        go_wp2_with (go_at_call 237; refine (class_Has _ _ _).mono ?_; rintro e w' ⟨rfl, rfl⟩)
        go_roundw
        case rel => exact ⟨k + 1, by omega, by go_num, by rw [Hs.out]; exact hJk, d0⟩
        case measure => simp [RowKit.intOf]; omega
      · obtain ⟨hl1, hl2⟩ := bitsL_at s hlt hbit
        have hs : bitsL s (k + 1) = bitsL s k ++ [(k : Int)] := by rw [bitsL_succ, hbit]; simp
        have hy := hY (bitsL s k).length wr hl1 hJk
        rw [hl2] at hy
        obtain ⟨fn, tmps, assign, body, hy, hR⟩ := hy
        have Hs := Lib.hid hs
        have hl1' := Lib.hid hl1
        clear hs hl1 hl2
        have hy' := Lib.hid hy
        clear hy
        go_upto_region 3 with (fail)
        refine (wpIn_wide (n := 0)).1 ?_
        have hy : (Instr.yield l #[.int .i64 (k : Int)]).run Tryz.prog wr = .ok (.round l fn tmps assign body) wr := hy'
        clear hy'
        gi_wp2_with (refine ⟨trivial, rfl, callsIn_wide.2 ((class_Has _ _ _).mono ?_)⟩; rintro e w' ⟨rfl, rfl⟩)
        refine ⟨rfl, hR.mono ?_⟩
        rintro e W' (⟨rfl, hJ', hk'⟩ | ⟨rfl, hJx'⟩)
        · have f0 : W'.heap[b]? = some (.cells #[.int .i64 s] 2 (0, 0)) := (hk'.own _ (by omega)).trans d0
          gi_wp2
          go_wp2
          go_roundw
          case rel => exact ⟨k + 1, by omega, by go_num, by rw [Hs.out, List.length_append]; exact hJ', f0⟩
          case measure => simp [RowKit.intOf]; omega
        · gi_wp2
          go_wp2
          simp only [Exit.noGoto]
          go_end0
          exact ⟨⟨_, rfl⟩, .inr ⟨_, hl1'.out, hJx'⟩⟩
    · obtain rfl : k = 32 := by omega
      go_wp2
      simp only [Exit.noGoto]
      go_end0
      exact ⟨⟨_, rfl⟩, .inl hJk⟩

theorem xor_ones (a n : Nat) (h : a < 2 ^ n) : a ^^^ (2 ^ n - 1) = 2 ^ n - 1 - a := by
  rw [show 2 ^ n - 1 - a = 2 ^ n - (a + 1) by omega]
  apply Nat.eq_of_testBit_eq
  intro i
  rw [Nat.testBit_xor, Nat.testBit_two_pow_sub_one, Nat.testBit_two_pow_sub_succ h]
  by_cases hi : i < n
  · simp [hi]
  · have : a.testBit i = false := Nat.testBit_lt_two_pow (Nat.lt_of_lt_of_le h (Nat.pow_le_pow_right (by decide) (by omega)))
    simp [hi, this]
theorem xor_i64 (s : Int) (n : Nat) (hn : n ≤ 32) (h0 : 0 ≤ s) (h1 : s < 2 ^ n) : bits .xor .i64 s (2 ^ n - 1) = 2 ^ n - 1 - s := by
  obtain ⟨a, rfl⟩ := Int.eq_ofNat_of_zero_le h0
  have ha : a < 2 ^ n := by exact_mod_cast h1
  have hp : 2 ^ n ≤ 2 ^ 32 := Nat.pow_le_pow_right (by decide) hn
  have hpos : 0 < 2 ^ n := Nat.two_pow_pos n
  have hc : ((2 : Int) ^ n - 1) = ((2 ^ n - 1 : Nat) : Int) := by
    rw [Int.natCast_sub hpos]; simp
  rw [hc]
  have hm : a ^^^ (2 ^ n - 1) = 2 ^ n - 1 - a := xor_ones a n ha
  have hx : bits .xor .i64 (a : Int) ((2 ^ n - 1 : Nat) : Int) = ((a ^^^ (2 ^ n - 1) : Nat) : Int) := by
    show IntKind.i64.wrap ((BitVec.ofInt 64 (a : Int) ^^^ BitVec.ofInt 64 ((2 ^ n - 1 : Nat) : Int)).toNat : Int) = _
    rw [BitVec.toNat_xor, ofInt_u64 a (by omega), ofInt_u64 _ (by omega), hm]
    exact wraps_i64 _ (by omega) (by omega)
  rw [hx, hm]
  omega
theorem pow_wrap (n : Nat) (hn : n ≤ 32) : wrap64 (wrap64 (2 ^ n) - 1) = 2 ^ n - 1 := by
  have hp : 2 ^ n ≤ 2 ^ 32 := Nat.pow_le_pow_right (by decide) hn
  have hc : ((2 : Int) ^ n) = ((2 ^ n : Nat) : Int) := by simp
  rw [hc]
  generalize 2 ^ n = q at hp ⊢
  have h : ∀ m : Int, -1 ≤ m → m < 2 ^ 62 → wrap64 m = m := fun m h0 h1 => by unfold wrap64; omega
  rw [h (q : Int) (by omega) (by omega)]
  exact h _ (by omega) (by omega)

def notB (s n : Int) : Int := if rightB s n then 2 ^ n.toNat - 1 - s else 0

set_option maxHeartbeats 400000 in
theorem class_Not (s n : Int) (w : World) :
    Calls Tryz.prog 229 #[.int .i64 s, .int .i64 n] w fun e w' => e = .returned (.int .i64 (notB s n)) ∧ w = w' := by
  rcases hr : rightB s n with _ | _
  · go_enter Tryz.func229, Tryz.ntmps229
    go_wp2_with (go_at_call 188; refine (class_Right _ _ _).mono ?_; rintro e w' ⟨rfl, rfl⟩)
    go_ret
    exact ⟨ret_int (by simp [notB, hr]), rfl⟩
  · have h2 := hr
    simp [rightB] at h2
    have h0 : 0 ≤ n := by omega
    have h1 : n < 64 := by omega
    have H2 := Lib.hid h2
    clear h2
    go_enter Tryz.func229, Tryz.ntmps229
    go_wp2_with (go_at_call 188; refine (class_Right _ _ _).mono ?_; rintro e w' ⟨rfl, rfl⟩)
    go_ret
    refine ⟨ret_int ?_, rfl⟩
    have h3 := H2.out
    rw [pow_wrap n.toNat (by omega), xor_i64 s n.toNat (by omega) h3.2.2.1 h3.2.2.2, notB, hr, if_pos rfl]
end Go.Vir

/- class.Classes. -/
namespace Go.Vir
open Go Go.RowKit Go.Proofs Go.Shelf
attribute [local go_sem] Oper.semAt_some

set_option maxRecDepth 100000 in
set_option maxHeartbeats 800000 in
theorem class_Classes (s : Int) (w : World) :
    Calls Tryz.prog 227 #[.int .i64 s] w fun e w' =>
      ∃ A' n' c', e = .returned (.slice A' n' c') ∧ Ints w' w'.heap.size A' n' (bitsL s 32) ∧ Below w.heap.size w w' := by
  obtain ⟨i0, hi0, hz0, hz1, hz2⟩ := info_parts int_info
  have hN := bitsL_len s 32
  refine (callsIn_wide (n := 0)).1 ?_
  refine callsIn_of_wp_marks Tryz.func227 rfl trivial ?_ rfl
  simp only [Tryz.ntmps227, List.size_toArray, List.length_cons, List.length_nil, Nat.reduceAdd, Nat.reduceSub, Array.replicate_succ, Array.replicate_zero, List.push_toArray, List.append_toArray, List.nil_append, List.cons_append]
  refine wpIn_wide.2 ?_
  go_wp2_with (go_at_call 263; refine (classes_make _ _).mono ?_; rintro e w1 ⟨rfl, rfl⟩)
  refine wp_gen ?_
  intro W1 hW1
  have hsz : W1.heap.size = w.heap.size + 2 := by simp [hW1]
  have hb : Below w.heap.size w W1 := by rw [hW1]; go_grown
  have d0 : W1.heap[w.heap.size]? = some (.cells #[.slice none 0 0] 88 (0, 0)) := (by rw [hW1]; simp (disch := (first | omega | (simp only [World.size_alloc]; done) | (simp only [World.size_alloc]; omega))) only [heap_laws])
  have d1 : W1.heap[w.heap.size + 1]? = some (.cells #[.int .i64 s] 2 (0, 0)) := (by rw [hW1]; simp (disch := (first | omega | (simp only [World.size_alloc]; done) | (simp only [World.size_alloc]; omega))) only [heap_laws])
  clear hW1
  refine (wpIn_wide (n := 0)).1 ?_
  refine range_law (a₁ := ?a1) rfl (enters_of Tryz.func280 (by kernel_rfl) rfl) (classes_iter w.heap.size (w.heap.size + 1) s W1 (by omega) (by omega) d1) (Below.refl _ _)
    (fun k hk => by omega) (by omega) (fun _ => rfl)
    (fun i W => Below w.heap.size w W ∧ ∃ v, Boxed W w.heap.size 88 v ∧ W.ownsRow w.heap.size 3 1 v i (((bitsL s 32).take i).map fun z => .int .i64 z) ∧ (∀ g, v.ownBlock = some g → ¬ (g = w.heap.size + 1)))
    (fun i c W => False)
    (fun i X Y hi hm => by
      obtain ⟨h1, v, h2, h3, h4⟩ := hi
      exact ⟨Below.moves h1 hm (Nat.le_refl _) (fun k hk => by omega), v, hm.cells h2 (by omega), ownsRow_moves h3 hm h4, h4⟩)
    (fun i c X Y hi hm => hi)
    ⟨hb, _, d0, World.ownsRow_nil _ _ _ _, fun g hg => by simp [Value.ownBlock] at hg⟩ ?assign ?body ?done ?stop
  case assign =>
    intro l i W K hK
    gi_wp2
    exact hK
  case body =>
    rintro l i W hi ⟨hbW, v, hv, hrow, hgO⟩ hsW
    have e0 := hv.cell
    have hlt : w.heap.size < W.heap.size := by omega
    have hNi : i < 1000000 := by omega
    have hL : ((bitsL s 32).take i).map (fun z => Value.int .i64 z) ++ [.int .i64 ((bitsL s 32)[i])] = ((bitsL s 32).take (i + 1)).map fun z => Value.int .i64 z := by
      rw [List.take_add_one, List.map_append, List.getElem?_eq_getElem hi]; rfl
    have HL := Lib.hid hL
    clear hL
    gi_wp2_with (gi_at_builtin; refine wpListIn_append_at _ rfl _ _ 88 rfl w.heap.size 3 i0 (.int .i64 0) 1 8 Tryz.underlying88 hi0 hz0 hz1 hz2 rfl (by decide) _ _ _ rfl (hrow.alloc _) ⟨W.heap.size, 0, none⟩ 1 1 [.int .i64 ((bitsL s 32)[i])] rfl rfl (cell_one_new _ _ _) (by simp [Value.oneCell']) (by simp only [maxLen]; omega) (by omega) (by simp; omega) ?_; intro v' w1 hown' hgrow hat'; obtain ⟨g', cap', rfl⟩ := ownsRow_succ hown'; have hap := boxed_appendedK (O := fun k => k = w.heap.size + 1) hv (by decide) hrow (by omega) (by omega) (by simp) (fun k (hk : k = w.heap.size + 1) => by omega) hgO hown' hgrow hat'; obtain ⟨hv1, hv2, hr2, hk2, hb2, hg2⟩ := hap; have hc1 := hv1.cell; have hf1 := hv1.frozen)
    rw [HL.out] at hr2
    exact ⟨hk2, hbW.trans hb2, _, hv2, hr2, hg2⟩
  case done =>
    rintro D W hD ⟨hbW, v, hv, hrow, hgO⟩ hK
    have e0 := hv.cell
    rw [List.take_length] at hrow
    obtain ⟨A, n, c, rfl⟩ : ∃ A n c, v = .slice A n c := by
      rcases hrow.2 with ⟨h, _⟩ | ⟨g, cap, cur, h, _⟩ <;> exact ⟨_, _, _, h⟩
    have hn : n = (bitsL s 32).length := by
      rcases hrow.2 with ⟨h, h2⟩ | ⟨g, cap, cur, h, _⟩
      · cases h; exact h2.symm
      · cases h; rfl
    rw [← hn] at hrow
    clear hn
    go_wp2
    refine ⟨by simp, .inl ⟨_, _, rfl, run_takeDeferred hK, ?_⟩⟩
    refine ⟨_, results_tmp rfl _ _ _, _, _, _, rfl, ?_, ?_⟩
    · exact Ints.of_own (ownsRow_putObj hrow (.deferred none) hK rfl)
    · exact hbW.trans ⟨rfl, rfl, rfl, by simp, fun k hk => World.putObj_heap_other (by omega)⟩
  case stop =>
    rintro D i c W hD hi h hK
    exact h.elim
end Go.Vir

/- Plain laws on texts: splitting by a byte, joining, trimming. No program. -/
namespace Go.Vir
open Go Go.Lib

/-- A text, parted by a byte. -/
def splitL (c : UInt8) : List UInt8 → List (List UInt8)
  | [] => [[]]
  | x :: t => if x = c then [] :: splitL c t else match splitL c t with
    | [] => [[x]]
    | h :: r => (x :: h) :: r
theorem splitL_ne (c : UInt8) (l : List UInt8) : splitL c l ≠ [] := by
  cases l with
  | nil => simp [splitL]
  | cons x t =>
    unfold splitL
    split
    · simp
    · split <;> simp
theorem splitL_miss (c : UInt8) : ∀ l : List UInt8, c ∉ l → splitL c l = [l]
  | [], _ => rfl
  | x :: t, h => by
    simp only [List.mem_cons, not_or] at h
    rw [splitL, if_neg (fun e => h.1 e.symm), splitL_miss c t h.2]
theorem splitL_app (c : UInt8) : ∀ (a b : List UInt8), c ∉ a → splitL c (a ++ c :: b) = a :: splitL c b
  | [], b, _ => by simp [splitL]
  | x :: t, b, h => by
    simp only [List.mem_cons, not_or] at h
    rw [List.cons_append, splitL, if_neg (fun e => h.1 e.symm), splitL_app c t b h.2]
theorem index_one (c : UInt8) : ∀ l : List UInt8, (index l [c] = -1 ∧ c ∉ l) ∨ ∃ i : Nat, index l [c] = i ∧ i < l.length ∧ c ∉ l.take i ∧ l = l.take i ++ c :: l.drop (i + 1)
  | [] => .inl ⟨rfl, by simp⟩
  | x :: t => by
    unfold index
    by_cases hx : c = x
    · subst hx
      exact .inr ⟨0, by simp, by simp, by simp, by rfl⟩
    · have h0 : ([c] : List UInt8).isPrefixOf (x :: t) = false := by
        show (c == x && _) = false
        rw [beq_eq_false_iff_ne.2 hx]; rfl
      rw [h0]
      simp only [Bool.false_eq_true, if_false]
      rcases index_one c t with ⟨h1, h2⟩ | ⟨i, h1, h2, h3, h4⟩
      · exact .inl ⟨by simp [h1], by simp [hx, h2]⟩
      · refine .inr ⟨i + 1, ?_, by simpa using h2, by simp [hx, h3], ?_⟩
        · rw [h1]
          have : ((i : Int) == -1) = false := by rw [beq_eq_false_iff_ne]; omega
          rw [this]; simp
        · simp only [List.take_succ_cons, List.drop_succ_cons, List.cons_append]
          rw [← h4]
theorem splitK_L (c : UInt8) : ∀ (n : Nat) (l : List UInt8), l.length ≤ n → splitK [c] 0 (count l [c]) l = splitL c l ∧ count l [c] + 1 = (splitL c l).length
  | 0, l, h => by
    obtain rfl : l = [] := List.eq_nil_of_length_eq_zero (by omega)
    exact ⟨rfl, rfl⟩
  | n + 1, l, h => by
    rcases index_one c l with ⟨h1, h2⟩ | ⟨i, h1, h2, h3, h4⟩
    · rw [count_miss h1, splitL_miss c l h2]
      exact ⟨rfl, rfl⟩
    · rw [count_hit (by simp) h1, Nat.add_comm 1, splitK, h1]
      have : ((i : Int) == -1) = false := by rw [beq_eq_false_iff_ne]; omega
      rw [this]
      simp only [Bool.false_eq_true, if_false, Int.toNat_natCast, Nat.add_zero, List.length_cons, List.length_nil, Nat.zero_add]
      obtain ⟨a1, a2⟩ := splitK_L c n (l.drop (i + 1)) (by simp; omega)
      have h5 := splitL_app c (l.take i) (l.drop (i + 1)) h3
      rw [← h4] at h5
      rw [a1, h5]
      exact ⟨rfl, by simp [a2]⟩
theorem split_L (c : UInt8) (l : List UInt8) : split l [c] = splitL c l := (splitK_L c _ l (Nat.le_refl _)).1
theorem splitL_mem (c : UInt8) : ∀ (l x : List UInt8), x ∈ splitL c l → x.length ≤ l.length ∧ c ∉ x ∧ ∀ b ∈ x, b ∈ l
  | [], x, h => by simp [splitL] at h; subst h; simp
  | y :: t, x, h => by
    unfold splitL at h
    split at h
    · rename_i hy
      simp only [List.mem_cons] at h
      rcases h with rfl | h
      · simp
      · obtain ⟨h1, h2, h3⟩ := splitL_mem c t x h
        exact ⟨by simp; omega, h2, fun b hb => List.mem_cons_of_mem _ (h3 b hb)⟩
    · rename_i hy
      split at h
      · rename_i h0; exact absurd h0 (splitL_ne c t)
      · rename_i hd r h0
        simp only [List.mem_cons] at h
        rcases h with rfl | h
        · obtain ⟨h1, h2, h3⟩ := splitL_mem c t hd (by rw [h0]; simp)
          refine ⟨by simp; omega, by simp only [List.mem_cons, not_or]; exact ⟨fun e => hy e.symm, h2⟩, fun b hb => ?_⟩
          simp only [List.mem_cons] at hb ⊢
          rcases hb with rfl | hb
          · exact .inl rfl
          · exact .inr (h3 b hb)
        · obtain ⟨h1, h2, h3⟩ := splitL_mem c t x (by rw [h0]; simp [h])
          exact ⟨by simp; omega, h2, fun b hb => List.mem_cons_of_mem _ (h3 b hb)⟩
theorem splitL_length (c : UInt8) : ∀ l : List UInt8, (splitL c l).length ≤ l.length + 1
  | [] => by simp [splitL]
  | y :: t => by
    have := splitL_length c t
    unfold splitL
    split
    · simp; omega
    · split
      · simp
      · rename_i hd r h0
        rw [h0] at this
        simp at this ⊢; omega

theorem join_length (sep : List UInt8) (L : Nat) : ∀ xs : List (List UInt8), (∀ x ∈ xs, x.length ≤ L) → (join xs sep).length ≤ xs.length * (L + sep.length)
  | [], _ => by simp [join_nil]
  | [x], h => by have := h x (by simp); simp [join_one]; omega
  | x :: y :: t, h => by
    have h1 := h x (by simp)
    have h2 := join_length sep L (y :: t) (fun z hz => h z (List.mem_cons_of_mem _ hz))
    have h3 : join (x :: y :: t) sep = x ++ (sep ++ join (y :: t) sep) := by
      rw [join_cons, join_cons]; simp [joinTail]
    rw [h3]
    simp only [List.length_append, List.length_cons] at *
    rw [Nat.add_mul (t.length + 1) 1]
    omega
end Go.Vir

/- The library's functions on texts, by the shelf's contracts: Join, Split. -/
namespace Go.Vir
open Go Go.RowKit Go.Proofs Go.Shelf

theorem join_strs (A : Option Addr) (n c B : Nat) (ss : List (List UInt8)) (b : UInt8) (w : World) (hz : Strs w B A n ss) (hB : B ≤ w.heap.size) (hc : n ≤ c) (hn : n ≤ 1000000) (hl : ∀ x ∈ ss, x.length ≤ 100000) :
    Calls Tryz.prog 108 #[.slice A n c, .string ⟨#[b]⟩] w fun e w' => e = .returned (.string ⟨(Lib.join ss [b]).toArray⟩) ∧ Below w.heap.size w w' := by
  rcases Nat.eq_zero_or_pos n with h0 | h0
  · subst h0
    obtain rfl : ss = [] := List.eq_nil_of_length_eq_zero hz.len
    exact (Tryz.strings_Join_none A c _ w).mono fun e w' ⟨h1, h2⟩ => ⟨h1, h2 ▸ Below.refl _ _⟩
  · obtain ⟨bk, o, rfl, hb, hcell⟩ := hz.at_ h0
    have hlen := hz.len
    have hm : (ss.map fun s => (⟨s.toArray⟩ : ByteArray)).map (·.data.toList) = ss := by
      rw [List.map_map]
      exact (List.map_congr_left (fun x _ => rfl)).trans (List.map_id _)
    have hj := join_length [b] 100000 ss hl
    have h := Tryz.strings_Join bk o c (ss.map fun s => ⟨s.toArray⟩) ⟨#[b]⟩ w (fun j x hx => by
      rw [List.getElem?_map] at hx
      cases hg : ss[j]? with
      | none => rw [hg] at hx; cases hx
      | some y =>
        rw [hg] at hx
        simp only [Option.map_some, Option.some.injEq] at hx
        subst hx
        obtain ⟨hj, rfl⟩ := List.getElem?_eq_some_iff.1 hg
        exact hcell j hj) (by omega) (by rw [List.length_map]; omega) (by rw [List.length_map]; omega) (by
          rw [hm]
          refine Nat.le_trans hj ?_
          rw [hlen]
          have : n * (100000 + [b].length) ≤ 1000000 * 100001 := Nat.mul_le_mul hn (by simp)
          omega)
    rw [List.length_map, hm, hlen] at h
    exact h

theorem split_by (c : UInt8) (x : List UInt8) (m : Int) (w : World) (hx : x.length ≤ 1000000) (hm : w.cell? ⟨4, 0, none⟩ = some (.int .i64 m)) :
    Calls Tryz.prog 72 #[.string ⟨x.toArray⟩, .string ⟨#[c]⟩] w fun e w' => ∃ A n, e = .returned (.slice A n n) ∧ Strs w' w'.heap.size A n (splitL c x) ∧ Below w.heap.size w w' := by
  have h := Tryz.strings_Split ⟨x.toArray⟩ ⟨#[c]⟩ m w (by show x.toArray.size < _; simp; omega) hm (Nat.le_refl 1)
  obtain ⟨a1, a2⟩ := splitK_L c _ x (Nat.le_refl _)
  have hd := Lib.splitB_data ⟨#[c]⟩ 0 (Lib.countB ⟨x.toArray⟩ ⟨#[c]⟩) ⟨x.toArray⟩
  have hd2 : (Lib.splitB ⟨#[c]⟩ 0 (Lib.countB ⟨x.toArray⟩ ⟨#[c]⟩) ⟨x.toArray⟩).map (·.data.toList) = splitL c x := hd.trans a1
  have hc : Lib.countB ⟨x.toArray⟩ ⟨#[c]⟩ + 1 = (splitL c x).length := a2
  rw [hc] at h
  refine h.mono ?_
  rintro e w' ⟨rfl, rfl⟩
  refine ⟨_, _, rfl, ⟨rfl, fun _ => ⟨w.heap.size, 0, rfl, by simp, fun j hj => ?_⟩⟩, (Below.refl _ _).alloc (Nat.le_refl _) _⟩
  generalize Lib.splitB ⟨#[c]⟩ 0 (Lib.countB ⟨x.toArray⟩ ⟨#[c]⟩) ⟨x.toArray⟩ = L at *
  have hj' : j < (L.map (·.data.toList)).length := by rw [hd2]; exact hj
  have hg : (splitL c x)[j] = (L.map (·.data.toList))[j] := by simp only [hd2]
  rw [hg]
  simp only [List.length_map] at hj'
  rw [World.cell?, World.alloc_heap_new]
  simp [hj']
end Go.Vir

/- A region that draws its order inside a round of a range over a function: what only reads, then a tail in one order. No program. -/
namespace Go.Vir
open Go Go.RowKit

section
variable {P : Program} {ops : Array Oper} {md : Region.Mode} {w : World} {l n : Nat}

theorem callsIn_round {f : FuncId} {args : Array Value} {w : World} {R : Ending → World → Prop} (h : Calls P f args w R) : CallsIn (Fence.wide.inRound l) n P f args w R :=
  callsIn_wide.2 h

def noDefer (ops : Array Oper) : Bool := ops.all fun o => match o.op with | .defer _ => false | _ => true
theorem noDefer_spec (h : noDefer ops = true) {i : Nat} {o : Oper} (ho : ops[i]? = some o) : ∀ c, o.op ≠ .defer c := by
  intro c hc
  have := Array.all_eq_true'.1 h o (Array.mem_of_getElem? ho)
  simp [hc] at this

theorem wpOpIn_of_stOp {i : Nat} {a : Act} {K : Act → Prop} {K' : Act → World → Prop} {Q' : Exit → Act → World → Prop} (hd : noDefer ops = true) (h : ∀ a, K a → K' a w) (hh : stOp P ops w i K a) :
    wpOpIn (Fence.wide.inRound l) n P ops Q' i K' a w := by
  unfold stOp at hh
  unfold wpOpIn
  split
  · rename_i ho; simp only [ho] at hh; exact h _ hh
  · rename_i o ho
    simp only [ho] at hh
    split
    · rename_i hw
      simp only [hw, if_true] at hh
      refine ⟨fun _ _ => trivial, ?_⟩
      rw [Oper.semAt_plain _ _ _ (noDefer_spec hd ho)]
      unfold Oper.still at hh
      generalize (execOp a.eval o).run P w = r at *
      cases r with
      | ok nx w' =>
        cases nx <;> simp only [Oper.stillUpon] at hh <;> simp only [Oper.uponIn]
        case enter f args =>
          obtain ⟨rfl, v, hc, hn⟩ := hh
          refine ⟨fun h => by simp [Fence.wide] at h, callsIn_round (hc.mono fun e w'' ⟨he, hw⟩ => ?_)⟩
          subst he; subst hw; exact h _ hn
        all_goals (obtain ⟨rfl, h2⟩ := hh; exact h _ h2)
      | halt x w' => simp only [Oper.stillUpon] at hh
    · rename_i hw; simp only [hw] at hh; exact ⟨fun _ _ => trivial, h _ hh⟩

theorem wpAnyIn_of_head {m g : Nat} {L : Array Bool → Act → Prop} {Q' : Exit → Act → World → Prop} (hd : noDefer ops = true) (hL : ∀ listed a, L listed a → wpAnyIn (Fence.wide.inRound l) n P md ops Q' g listed a w) :
    ∀ (f : Nat) (listed : Array Bool) (a : Act), wpAnyL P md ops w m L f listed a → wpAnyIn (Fence.wide.inRound l) n P md ops Q' (f + g) listed a w
  | 0, listed, a, h => by rw [Nat.zero_add]; exact hL _ _ h
  | f + 1, listed, a, h => by
    rw [show f + 1 + g = (f + g) + 1 by omega]
    exact ⟨fun h0 => absurd h0 h.1, fun i hi => wpOpIn_of_stOp hd (fun a' h' => wpAnyIn_of_head hd hL f _ a' h') (h.2 i hi).2⟩

theorem wpAnyIn_of_seq {F : Fence} {Q' : Exit → Act → World → Prop} : ∀ (ol : List Oper) (k : Nat) (listed : Array Bool) (a : Act) (w : World), (∀ j, ol[j]? = ops[k + j]?) →
    Region.seqB md ops ol.length k listed = true → wpListIn F n P ops Q' ol a w → wpAnyIn F n P md ops Q' ol.length listed a w
  | [], _, _, _, _, _, hB, h => ⟨by simpa [Region.seqB] using hB, h⟩
  | o :: ol, k, listed, a, w, hl, hB, h => by
    have h0 : ops[k]? = some o := by simpa using (hl 0).symm
    simp only [List.length_cons, Region.seqB, Bool.and_eq_true, decide_eq_true_eq] at hB
    refine ⟨fun h1 => (by rw [hB.1] at h1; cases h1), fun i hi => ?_⟩
    rw [hB.1] at hi
    have hik : i = k := by simpa using hi
    subst hik
    have hw : wpOpIn F n P ops Q' i (wpListIn F n P ops Q' ol) a w := by unfold wpOpIn; simp only [h0]; exact h
    exact wpOpIn_mono (fun a' w' h' => wpAnyIn_of_seq ol (i + 1) _ a' w' (fun j => by have := hl (j + 1); simpa [Nat.add_assoc, Nat.add_comm 1 j] using this) hB.2 h') hw

theorem wpIn_still_tail {id : Nat} {Q : Exit → Act → World → Prop} {a : Act} {ol : List Oper} (k : Nat) (hm : P.follows .mixedOrders = true) (hB : Region.lexTailB .any ol.toArray k = true) (hd : noDefer ol.toArray = true)
    (h : wpStill P ol.toArray { w with drawn := w.drawn + 1 } (fun a' => wpListIn (Fence.wide.inRound l) n P ol.toArray Q (ol.drop k) a' { w with drawn := w.drawn + 1 }) (ol.take k) a) : (Code.region id ol.toArray true).wpIn (Fence.wide.inRound l) n P Q a w := by
  simp only [Region.lexTailB, Bool.and_eq_true, decide_eq_true_eq] at hB
  obtain ⟨⟨⟨⟨hsel, hn⟩, hs⟩, hc⟩, hlex⟩ := hB
  have hn' : k < ol.length := by simpa using hn
  have htl : (ol.take k).length = k := by simp; omega
  have hdl : (ol.drop k).length = ol.toArray.size - k := by simp
  have inv0 : HeadInv .any ol.toArray k (Array.replicate ol.toArray.size false) :=
    ⟨by simp, fun j oj _ hl => (by rw [getD_replicate_false] at hl; cases hl), fun t _ ht => getD_in (by simpa using ht) (getD_replicate_false _ _)⟩
  have H := wpAnyL_lex (md := .any) (g := ol.toArray.size - k) hsel hs hc hn (ol.take k) 0 _ a (fun j hj => by
    have hj' : j < k := by rw [htl] at hj; exact hj
    simp [hj']) (by simpa using htl) inv0 (by rw [htl]; exact hlex) h
  refine wpIn_region_any hm ?_
  have := wpAnyIn_of_head (Q' := Q) (l := l) (n := n) (g := ol.toArray.size - k) hd (fun listed a' hL => by
    have := wpAnyIn_of_seq (md := .any) (F := Fence.wide.inRound l) (n := n) (Q' := Q) (ol.drop k) k listed a' { w with drawn := w.drawn + 1 } (fun j => by simp [List.getElem?_drop]) (by rw [hdl]; exact hL.1) hL.2
    rwa [hdl] at this) _ _ _ H
  rw [htl, show k + (ol.toArray.size - k) = ol.toArray.size by omega] at this
  exact this
end
end Go.Vir

/- A region that draws its order inside a round: loads in any order beside one allocation, then a tail in one order. No program. -/
namespace Go.Vir
open Go Go.RowKit

/-- No way out. -/
def noWay : Exit → Act → World → Prop := fun _ _ _ => False

section
variable {P : Program} {ops : Array Oper} {md : Region.Mode} {l n : Nat} {S : World → Prop}

theorem wpOpIn_noWay {F : Fence} {i : Nat} {K : Act → World → Prop} {Q : Exit → Act → World → Prop} {a : Act} {w : World} (h : wpOpIn F n P ops noWay i K a w) : wpOpIn F n P ops Q i K a w := by
  unfold wpOpIn at *
  split
  · rename_i ho; simpa [ho] using h
  · rename_i o ho
    simp only [ho] at h
    split
    · rename_i hw
      simp only [hw, if_true] at h
      unfold Oper.wpIn at *
      refine ⟨h.1, ?_⟩
      have h := h.2
      generalize (o.semAt F.round a.eval).run P w = r at *
      cases r with
      | ok x w' =>
        cases x <;> simp only [Oper.uponIn] at h ⊢ <;> first
          | exact h
          | exact ⟨h.1, CallsIn.mono h.2 (fun e w'' he => by cases e <;> first | exact he | exact he.elim | (obtain ⟨_, _, h3⟩ := he; exact h3.elim))⟩
          | exact ⟨h.1, RowsIn.mono h.2 (fun _ _ he => he)⟩
          | exact ⟨h.1, RoundIn.mono h.2 (fun e w'' he => by cases e <;> first | exact he | exact he.elim | (obtain ⟨_, _, h3⟩ := he; exact h3.elim))⟩
      | halt x w' => cases x <;> simp only [Oper.uponIn] at h ⊢ <;> exact h.elim
    · rename_i hw; simp only [hw] at h; exact h

theorem yieldsIf_wpOpIn {i : Nat} {o : Oper} {v : Value} {a : Act} (hd : noDefer ops = true) (hi : ops[i]? = some o) (hy : YieldsIf P ops S o v a)
    {K : Act → World → Prop} {w : World} {Q : Exit → Act → World → Prop} (hS : S w) (h : K (a.put o.dst v) w) : wpOpIn (Fence.wide.inRound l) n P ops Q i K a w := by
  unfold wpOpIn
  simp only [hi]
  rcases hy with ⟨hw, hv⟩ | ⟨hw, rfl⟩
  · simp only [hw, if_true]
    refine ⟨fun _ _ => trivial, ?_⟩
    rw [Oper.semAt_plain _ _ _ (noDefer_spec hd hi), hv w hS]
    exact h
  · simp only [hw, Bool.false_eq_true, if_false]; exact ⟨fun _ _ => trivial, h⟩

theorem wpOpIn_putH {j : Nat} {oi oj : Oper} {v : Value} (hd : noDefer ops = true) (hj : ops[j]? = some oj) (hap : oi.apart ops oj = true)
    (hsi : ∀ cs b, oi.op ≠ .select cs b) (hsj : ∀ cs b, oj.op ≠ .select cs b) {K : Act → World → Prop} {a : Act} {w : World}
    (hy : YieldsIf P ops S oi v a) (h : wpOpIn (Fence.wide.inRound l) n P ops noWay j K (a.put oi.dst v) w) :
    wpOpIn (Fence.wide.inRound l) n P ops noWay j (fun a' w' => YieldsIf P ops S oi v a' ∧ K (a'.put oi.dst v) w') a w := by
  obtain ⟨h1, h2, h3⟩ := Oper.apart_spec hap
  have keep : ∀ (a : Act), YieldsIf P ops S oi v a → ∀ u, YieldsIf P ops S oi v (a.put oj.dst u) := fun a hy u =>
    hy.of_same (execOp_put oi hsi a oj.dst u h3) (wanted_put oi a oj.dst u h3)
  have keepD : ∀ d, YieldsIf P ops S oi v { a with defers := d :: a.defers } := fun d => hy.of_same rfl rfl
  have hdj := noDefer_spec hd hj
  unfold wpOpIn at *
  simp only [hj] at h ⊢
  rw [wanted_put oj a oi.dst v h1] at h
  split
  · rename_i hw
    simp only [hw, if_true] at h
    unfold Oper.wpIn at *
    refine ⟨fun _ _ => trivial, ?_⟩
    have h := h.2
    rw [Oper.semAt_plain _ _ _ hdj, execOp_put oj hsj a oi.dst v h1] at h
    rw [Oper.semAt_plain _ _ _ hdj]
    generalize (execOp a.eval oj).run P w = r at *
    cases r with
    | ok x w' =>
      cases x <;> simp only [Oper.uponIn] at h ⊢
      case value u => exact ⟨keep a hy u, by rw [← Act.put_comm a v u h2]; exact h⟩
      case skip => exact ⟨keep a hy _, by rw [← Act.put_comm a v undef h2]; exact h⟩
      case defer d =>
        refine ⟨keep _ (keepD d) _, ?_⟩
        rw [← Act.put_comm _ v undef h2, ← Act.put_defers]
        exact h
      case enter f args =>
        refine ⟨h.1, CallsIn.mono h.2 fun e w'' he => ?_⟩
        cases e with
        | returned u => exact ⟨keep a hy u, by rw [← Act.put_comm a v u h2]; exact he⟩
        | panicked c => exact he
        | outgrown => exact he
      case row row args => exact ⟨h.1, RowsIn.mono h.2 fun u w'' he => ⟨keep a hy u, by rw [← Act.put_comm a v u h2]; exact he⟩⟩
      case round l f tmps assign body =>
        refine ⟨h.1, RoundIn.mono h.2 fun e w'' he => ?_⟩
        cases e with
        | returned u => exact ⟨keep a hy u, by rw [← Act.put_comm a v u h2]; exact he⟩
        | panicked c => exact he
        | outgrown => exact he
    | halt x w' =>
      cases x <;> simp only [Oper.uponIn] at h ⊢
      all_goals exact h
  · rename_i hw
    simp only [hw] at h
    exact ⟨fun _ _ => trivial, keep a hy _, by rw [← Act.put_comm a v undef h2]; exact h.2⟩

/-- Whichever order: operations below m alone come up, each keeps S; then L. -/
def wpLH (P : Program) (md : Region.Mode) (ops : Array Oper) (S : World → Prop) (l n m : Nat) (L : Array Bool → Act → World → Prop) : Nat → Array Bool → Act → World → Prop
  | 0, listed, a, w => L listed a w
  | f + 1, listed, a, w => Region.ready md ops listed ≠ [] ∧ ∀ i ∈ Region.ready md ops listed, i < m ∧
      wpOpIn (Fence.wide.inRound l) n P ops noWay i (fun a' w' => S w' ∧ wpLH P md ops S l n m L f (listed.setIfInBounds i true) a' w') a w

theorem wpAnyIn_of_LH {m g : Nat} {L : Array Bool → Act → World → Prop} {Q' : Exit → Act → World → Prop} (hL : ∀ listed a w, L listed a w → wpAnyIn (Fence.wide.inRound l) n P md ops Q' g listed a w) :
    ∀ (f : Nat) (listed : Array Bool) (a : Act) (w : World), wpLH P md ops S l n m L f listed a w → wpAnyIn (Fence.wide.inRound l) n P md ops Q' (f + g) listed a w
  | 0, listed, a, w, h => by rw [Nat.zero_add]; exact hL _ _ _ h
  | f + 1, listed, a, w, h => by
    rw [show f + 1 + g = (f + g) + 1 by omega]
    exact ⟨fun h0 => absurd h0 h.1, fun i hi => wpOpIn_noWay (wpOpIn_mono (fun a' w' h' => wpAnyIn_of_LH hL f _ a' w' h'.2) (h.2 i hi).2)⟩

theorem wpLH_first {m i : Nat} {oi : Oper} {v : Value} {L : Array Bool → Act → World → Prop} (hd : noDefer ops = true) (hi : ops[i]? = some oi) (hsel : ∀ (j : Nat) (o : Oper) cs b, ops[j]? = some o → o.op ≠ .select cs b)
    (hs : Region.sinkB md ops m = true) (hc : Region.chainB md ops m = true) (hm : m < ops.size) (him : i < m) (hdone : ∀ listed a w, L listed a w → ∀ j ∈ Region.ready md ops listed, m ≤ j) :
    ∀ (f : Nat) (listed : Array Bool) (a : Act) (w : World), HeadInv md ops m listed →
      (∀ j oj, ops[j]? = some oj → j ≠ i → listed.getD j true = false → (∀ e ∈ oj.after, Region.binds md e = true → e.on ≠ i) → oi.apart ops oj = true) →
      i ∈ Region.ready md ops listed → YieldsIf P ops S oi v a → S w →
      wpLH P md ops S l n m L f (listed.setIfInBounds i true) (a.put oi.dst v) w → wpLH P md ops S l n m L (f + 1) listed a w := by
  intro f
  induction f with
  | zero =>
    intro listed a w inv _ hr hy hS H
    have hun := (mem_ready.1 hr).1
    refine ⟨fun h => (by rw [h] at hr; cases hr), fun j hj => ?_⟩
    have hjm : j < m := by
      rcases Nat.lt_or_ge j m with h | h
      · exact h
      · exact absurd hj (tail_waits hs hc hm inv _ i rfl him hun j h)
    refine ⟨hjm, ?_⟩
    by_cases hji : j = i
    · subst hji; exact yieldsIf_wpOpIn hd hi hy hS ⟨hS, H⟩
    · have := hdone _ _ _ H j (ready_mono hj hji)
      omega
  | succ f ih =>
    intro listed a w inv hfree hr hy hS H
    have hun := (mem_ready.1 hr).1
    refine ⟨fun h => (by rw [h] at hr; cases hr), fun j hj => ?_⟩
    have hjm : j < m := by
      rcases Nat.lt_or_ge j m with h | h
      · exact h
      · exact absurd hj (tail_waits hs hc hm inv _ i rfl him hun j h)
    refine ⟨hjm, ?_⟩
    by_cases hji : j = i
    · subst hji; exact yieldsIf_wpOpIn hd hi hy hS ⟨hS, H⟩
    · have h1 := (H.2 j (ready_mono hj hji)).2
      obtain ⟨hjun, oj, hoj, hall⟩ := mem_ready.1 hj
      have hnot : ∀ e ∈ oj.after, Region.binds md e = true → e.on ≠ i := fun e he hb heq => by
        have h1 := hall e he hb
        rw [heq, getD_both hun] at h1
        cases h1
      have h2 := wpOpIn_putH hd hoj (hfree j oj hoj hji hjun hnot) (fun cs b => hsel i oi cs b hi) (fun cs b => hsel j oj cs b hoj) hy h1
      have hfree' : ∀ k ok, ops[k]? = some ok → k ≠ i → (listed.setIfInBounds j true).getD k true = false →
          (∀ e ∈ ok.after, Region.binds md e = true → e.on ≠ i) → oi.apart ops ok = true := fun k ok hk hki hun hno => by
        refine hfree k ok hk hki ?_ hno
        by_cases hjk : j = k
        · subst hjk; exact hjun
        · rw [getD_set_ne true hjk] at hun; exact hun
      refine wpOpIn_mono (fun a' w' h3 => ⟨h3.2.1, ih (listed.setIfInBounds j true) a' w' (inv.set hj hjm) hfree' (ready_mono hr (Ne.symm hji)) h3.1 h3.2.1 ?_⟩) h2
      rw [Array.setIfInBounds_comm _ _ hji]
      exact h3.2.2

/-- Operations that only read, taken first in the text's order. -/
def wpTakes (P : Program) (ops : Array Oper) (S : World → Prop) (K : Act → Prop) : List Oper → Act → Prop
  | [], a => K a
  | o :: rest, a => ∃ v, YieldsIf P ops S o v a ∧ wpTakes P ops S K rest (a.put o.dst v)

theorem wpLH_lex {k m g f : Nat} {K : Act → Prop} {L : Array Bool → Act → World → Prop} {w : World} (hd : noDefer ops = true) (hsel : Region.noSelect ops = true) (hs : Region.sinkB md ops m = true) (hc : Region.chainB md ops m = true) (hm : m < ops.size) (hkm : k ≤ m)
    (hdone : ∀ listed a w, L listed a w → ∀ j ∈ Region.ready md ops listed, m ≤ j) (hS : S w)
    (hbase : ∀ listed a, Region.seqB md ops g k listed = true → K a → wpLH P md ops S l n m L f listed a w) :
    ∀ (tl : List Oper) (j : Nat) (listed : Array Bool) (a : Act), (∀ i, i < tl.length → tl[i]? = ops[j + i]?) → j + tl.length = k → HeadInv md ops m listed →
    Region.lexHead md ops g tl.length j listed = true → wpTakes P ops S K tl a → wpLH P md ops S l n m L (tl.length + f) listed a w
  | [], j, listed, a, _, hk, _, hB, h => by
    have : j = k := by simpa using hk
    subst this
    simp only [List.length_nil, Nat.zero_add]
    exact hbase listed a (by simpa [Region.lexHead] using hB) h
  | o :: tl, j, listed, a, hl, hk, inv, hB, h => by
    have h0 : ops[j]? = some o := by simpa using (hl 0 (by simp)).symm
    simp only [List.length_cons, Region.lexHead, Bool.and_eq_true] at hB
    obtain ⟨⟨hr, hf⟩, hB'⟩ := hB
    have hjm : j < m := by simp only [List.length_cons] at hk; omega
    have hr' : j ∈ Region.ready md ops listed := by simpa using hr
    obtain ⟨v, hy, hK⟩ := h
    rw [List.length_cons, show tl.length + 1 + f = (tl.length + f) + 1 by omega]
    exact wpLH_first hd h0 (Region.noSelect_spec hsel) hs hc hm hjm hdone (tl.length + f) listed a w inv (Region.free_spec h0 hf) hr' hy hS
      (wpLH_lex hd hsel hs hc hm hkm hdone hS hbase tl (j + 1) _ _ (fun i hi => by have := hl (i + 1) (by simp; omega); simpa [Nat.add_assoc, Nat.add_comm 1 i] using this) (by simp only [List.length_cons] at hk; omega) (inv.set hr' hjm) hB' hK)

/-- The whole: k readings, one operation that makes memory, a tail. -/
theorem wpIn_held_tail {id : Nat} {Q : Exit → Act → World → Prop} {a : Act} {w : World} {ol : List Oper} {oz : Oper} (k : Nat) (S : World → Prop) (hm : P.follows .mixedOrders = true)
    (hd : noDefer ol.toArray = true) (hsel : Region.noSelect ol.toArray = true) (hz : ol[k]? = some oz) (hn : k + 1 < ol.length) (hs : Region.sinkB .any ol.toArray (k + 1) = true) (hc : Region.chainB .any ol.toArray (k + 1) = true)
    (hB : Region.lexHead .any ol.toArray (ol.toArray.size - k) k 0 (Array.replicate ol.toArray.size false) = true) (hS : S w.drew)
    (h : wpTakes P ol.toArray S (fun a' => Region.wanted oz (yielded ol.toArray a'.tmps) = true ∧ oz.wpIn (Fence.wide.inRound l) n P a' w.drew (fun a2 w2 => S w2 ∧ wpListIn (Fence.wide.inRound l) n P ol.toArray Q (ol.drop (k + 1)) a2 w2) noWay) (ol.take k) a) :
    (Code.region id ol.toArray true).wpIn (Fence.wide.inRound l) n P Q a w := by
  have hn' : k + 1 < ol.toArray.size := by simpa using hn
  have htl : (ol.take k).length = k := by simp; omega
  have hdl : (ol.drop (k + 1)).length = ol.toArray.size - (k + 1) := by simp
  have inv0 : HeadInv .any ol.toArray (k + 1) (Array.replicate ol.toArray.size false) :=
    ⟨by simp, fun j oj _ hl => (by rw [getD_replicate_false] at hl; cases hl), fun t _ ht => getD_in (by simpa using ht) (getD_replicate_false _ _)⟩
  have H := wpLH_lex (P := P) (md := .any) (S := S) (l := l) (n := n) (k := k) (m := k + 1) (g := ol.toArray.size - k) (f := 1) (w := w.drew)
    (L := fun listed a w => Region.seqB .any ol.toArray (ol.toArray.size - (k + 1)) (k + 1) listed = true ∧ wpListIn (Fence.wide.inRound l) n P ol.toArray Q (ol.drop (k + 1)) a w)
    hd hsel hs hc hn' (Nat.le_succ k) (fun listed a w hL => seqB_ready hL.1) hS (fun listed a hB2 hK => by
      rw [show ol.toArray.size - k = (ol.toArray.size - (k + 1)) + 1 by omega] at hB2
      simp only [Region.seqB, Bool.and_eq_true, decide_eq_true_eq] at hB2
      refine ⟨fun h0 => (by rw [h0] at hB2; cases hB2.1), fun i hi => ?_⟩
      rw [hB2.1] at hi
      obtain rfl : i = k := by simpa using hi
      refine ⟨Nat.lt_succ_self _, ?_⟩
      have hoz : ol.toArray[i]? = some oz := by simpa using hz
      unfold wpOpIn
      simp only [hoz, hK.1, if_true]
      exact Oper.wpIn_mono (fun a2 w2 h2 => ⟨h2.1, hB2.2, h2.2⟩) hK.2) (ol.take k) 0 _ a (fun j hj => by
        have hj' : j < k := by rw [htl] at hj; exact hj
        simp [hj']) (by rw [htl]; omega) inv0 (by rw [htl]; exact hB) h
  refine wpIn_region_any hm ?_
  have := wpAnyIn_of_LH (Q' := Q) (l := l) (n := n) (g := ol.toArray.size - (k + 1)) (fun listed a' w' hL => by
    have := wpAnyIn_of_seq (md := .any) (F := Fence.wide.inRound l) (n := n) (Q' := Q) (ol.drop (k + 1)) (k + 1) listed a' w' (fun j => by simp [List.getElem?_drop]) (by rw [hdl]; exact hL.1) hL.2
    rwa [hdl] at this) _ _ _ _ H
  rw [htl, show k + 1 + (ol.toArray.size - (k + 1)) = ol.toArray.size by omega] at this
  exact this
end
end Go.Vir

/- class: the names of a set's classes. -/
namespace Go.Vir
open Go Go.RowKit Go.Proofs Go.Shelf
attribute [local go_sem] Oper.semAt_some

theorem str_info : (Tryz.prog.info? 9).map (fun i => (i.zero, i.size, i.bytes)) = some (some (.string ⟨#[]⟩), 1, 16) := by kernel_rfl

/-- The names of a set's classes. -/
def namesL (s : Int) (ss : List (List UInt8)) : List (List UInt8) := (bitsL s 32).map fun c => ss.getD c.toNat []
def listB (s : Int) (ss : List (List UInt8)) : List UInt8 := Lib.join (namesL s ss) [32]

theorem bit_lt {s c : Int} {n : Nat} (hr : rightB s n = true) (hb : bitB s c = true) : 0 ≤ c ∧ c.toNat < n := by
  simp only [rightB, bitB, Bool.and_eq_true, decide_eq_true_eq, beq_iff_eq] at hr hb
  obtain ⟨h1, h2, h3, h4⟩ := hr
  obtain ⟨_, h5, h6, h7⟩ := hb
  refine ⟨h5, Nat.lt_of_not_le fun h => ?_⟩
  have hp : (2 : Int) ^ n ≤ 2 ^ c.toNat := by exact_mod_cast Nat.pow_le_pow_right (by decide) h
  rw [Int.toNat_natCast] at h4
  rw [Int.ediv_eq_zero_of_lt h3 (by omega)] at h7
  simp at h7
theorem bitsL_mem {s x : Int} {n : Nat} (h : x ∈ bitsL s n) : bitB s x = true := by
  unfold bitsL at h
  obtain ⟨c, hc, rfl⟩ := List.mem_map.1 h
  exact (List.mem_filter.1 hc).2
theorem namesL_mem {s : Int} {ss : List (List UInt8)} {n : Nat} (hr : rightB s n = true) (hn : ss.length = n) {x : List UInt8} (hx : x ∈ namesL s ss) : x ∈ ss := by
  unfold namesL at hx
  obtain ⟨c, hc, rfl⟩ := List.mem_map.1 hx
  have := bit_lt hr (bitsL_mem hc)
  have hlt : c.toNat < ss.length := by omega
  simp [List.getD_eq_getElem?_getD, hlt]

set_option maxRecDepth 100000 in
set_option maxHeartbeats 800000 in
theorem reader_list (r : Nat) (A : Option Addr) (n c : Nat) (ss : List (List UInt8)) (s : Int) (w : World) (hR : Reader w r A n c ss) (hr : rightB s n = true) (hs : ∀ x ∈ ss, x.length ≤ 1000) :
    Calls Tryz.prog 228 #[.pointer (some ⟨r, 0, none⟩), .int .i64 s] w fun e w' => e = .returned (.string ⟨(listB s ss).toArray⟩) ∧ Below w.heap.size w w' := by
  obtain ⟨i0, hi0, hz0, hz1, hz2⟩ := info_parts str_info
  have hN := bitsL_len s 32
  have hrl := hR.lt
  obtain ⟨mb, es, ck, hr1, _, _⟩ := hR.at_
  have hlen := hR.strs.len
  have Hl := Lib.hid hlen
  clear hlen
  refine (callsIn_wide (n := 0)).1 ?_
  refine callsIn_of_wp_marks Tryz.func228 rfl trivial ?_ rfl
  simp only [Tryz.ntmps228, List.size_toArray, List.length_cons, List.length_nil, Nat.reduceAdd, Nat.reduceSub, Array.replicate_succ, Array.replicate_zero, List.push_toArray, List.append_toArray, List.nil_append, List.cons_append]
  refine wpIn_wide.2 ?_
  go_wp2_with (go_at_call 263; refine (classes_make _ _).mono ?_; rintro e w1 ⟨rfl, rfl⟩)
  refine wp_gen ?_
  intro W1 hW1
  have hsz : W1.heap.size = w.heap.size + 3 := by simp [hW1]
  have hb : Below w.heap.size w W1 := by rw [hW1]; go_grown
  have d0 : W1.heap[w.heap.size]? = some (.cells #[.pointer (some ⟨r, 0, none⟩)] 278 (0, 0)) := (by rw [hW1]; simp (disch := (first | omega | (simp only [World.size_alloc]; done) | (simp only [World.size_alloc]; omega))) only [heap_laws])
  have d1 : W1.heap[w.heap.size + 1]? = some (.cells #[.slice none 0 0] 23 (0, 0)) := (by rw [hW1]; simp (disch := (first | omega | (simp only [World.size_alloc]; done) | (simp only [World.size_alloc]; omega))) only [heap_laws])
  have d2 : W1.heap[w.heap.size + 1 + 1]? = some (.cells #[.int .i64 s] 2 (0, 0)) := (by rw [hW1]; simp (disch := (first | omega | (simp only [World.size_alloc]; done) | (simp only [World.size_alloc]; omega))) only [heap_laws])
  clear hW1
  refine (wpIn_wide (n := 0)).1 ?_
  refine range_law (a₁ := ?a1) rfl (enters_of Tryz.func280 (by kernel_rfl) rfl) (classes_iter w.heap.size (w.heap.size + 1 + 1) s W1 (by omega) (by omega) d2) (Below.refl _ _)
    (fun k hk => by omega) (by omega) (fun _ => rfl)
    (fun i W => Below w.heap.size w W ∧ W.heap[w.heap.size]? = some (.cells #[.pointer (some ⟨r, 0, none⟩)] 278 (0, 0)) ∧ ∃ v, Boxed W (w.heap.size + 1) 23 v ∧
      W.ownsRow w.heap.size 9 1 v i (((namesL s ss).take i).map fun z => .string ⟨z.toArray⟩) ∧ (∀ g, v.ownBlock = some g → ¬ (g = w.heap.size ∨ g = w.heap.size + 1 + 1)))
    (fun i c W => False)
    (fun i X Y hi hm => by
      obtain ⟨h1, h0, v, h2, h3, h4⟩ := hi
      exact ⟨Below.moves h1 hm (Nat.le_refl _) (fun k hk => by omega), hm.cells h0 (by omega), v, hm.cells h2 (by omega), ownsRow_moves h3 hm (fun g hg ho => h4 g hg (.inr ho)), h4⟩)
    (fun i c X Y hi hm => hi)
    ⟨hb, d0, _, d1, World.ownsRow_nil _ _ _ _, fun g hg => by simp [Value.ownBlock] at hg⟩ ?assign ?body ?done ?stop
  case assign =>
    intro l i W K hK
    gi_wp2
    exact hK
  case body =>
    rintro l i W hi ⟨hbW, e0, v, hv, hrow, hgO⟩ hsW
    have hi2 : i < 32 := by omega
    obtain ⟨h0, h1⟩ := bit_lt hr (bitsL_mem (List.getElem_mem hi))
    obtain ⟨k, hk⟩ := Int.eq_ofNat_of_zero_le h0
    have hkn : k < n := by omega
    have hk2 : (bitsL s 32)[i]?.getD 0 = (k : Int) := by rw [List.getElem?_eq_getElem hi, hk]; rfl
    obtain ⟨zb, zo, rfl, hzb, hzc⟩ := hR.strs.at_ (by omega)
    have hkl : k < ss.length := by rw [Hl.out]; exact hkn
    have hnl : (namesL s ss)[i]? = some ss[k] := by
      unfold namesL
      rw [List.getElem?_map, List.getElem?_eq_getElem hi, hk]
      simp [List.getD_eq_getElem?_getD, hkl]
    have hL : ((namesL s ss).take i).map (fun z => Value.string ⟨z.toArray⟩) ++ [.string ⟨ss[k].toArray⟩] = ((namesL s ss).take (i + 1)).map fun z => Value.string ⟨z.toArray⟩ := by
      rw [List.take_add_one, List.map_append, hnl]; rfl
    have HL := Lib.hid hL
    have hkm : ss[k].length ≤ 1000 := hs _ (List.getElem_mem _)
    have hzk := (cellOf hbW hzb).trans (hzc k hkl)
    generalize ss[k] = sv at HL hzk hkm
    have e1 := cell_blk e0 0
    have e2 := hv.cell
    have e3 : W.cell? ⟨r, 0, none⟩ = some (.slice (some ⟨zb, zo, none⟩) n c) := (cellOf hbW hrl).trans (by simp [World.cell?, hr1])
    simp only [List.getElem?_toArray, List.getElem?_cons_zero] at e1
    clear hL hnl h0 h1 hzc hkl
    have hlt : w.heap.size + 1 < W.heap.size := by omega
    gi_wp2
    have hdec : decide ((k : Int) < 0) = false := by simp
    have hdec2 : decide (k < n) = true := by simpa using hkn
    refine wpIn_held_tail 9 (fun V => V.cell? ⟨w.heap.size, 0, none⟩ = some (.pointer (some ⟨r, 0, none⟩)) ∧ V.cell? ⟨w.heap.size + 1, 0, none⟩ = some v ∧ V.cell? ⟨r, 0, none⟩ = some (.slice (some ⟨zb, zo, none⟩) n c) ∧ V.cell? ⟨zb, zo + k, none⟩ = some (.string ⟨sv.toArray⟩))
      (by kernel_rfl) (by kernel_rfl) (by kernel_rfl) rfl (by decide) (by kernel_rfl) (by kernel_rfl) (by kernel_rfl) ⟨e1, e2, e3, hzk⟩ ?_
    simp only [List.take_succ_cons, List.take_zero]
    refine ⟨v, .inl ⟨rfl, fun V hV => by obtain ⟨c0, c1, c2, c3⟩ := hV; go_simp⟩, ?_⟩
    refine ⟨.pointer (some ⟨r, 0, none⟩), .inl ⟨rfl, fun V hV => by obtain ⟨c0, c1, c2, c3⟩ := hV; go_simp⟩, ?_⟩
    refine ⟨.pointer (some ⟨r, 0, none⟩), .inl ⟨rfl, fun V hV => by obtain ⟨c0, c1, c2, c3⟩ := hV; go_simp⟩, ?_⟩
    refine ⟨.pointer (some ⟨r, 0, none⟩), .inl ⟨rfl, fun V hV => by obtain ⟨c0, c1, c2, c3⟩ := hV; go_simp⟩, ?_⟩
    refine ⟨.pointer (some ⟨r, 0, none⟩), .inl ⟨rfl, fun V hV => by obtain ⟨c0, c1, c2, c3⟩ := hV; go_simp⟩, ?_⟩
    refine ⟨.slice (some ⟨zb, zo, none⟩) n c, .inl ⟨rfl, fun V hV => by obtain ⟨c0, c1, c2, c3⟩ := hV; go_simp⟩, ?_⟩
    refine ⟨.int .i64 (k : Int), .inl ⟨rfl, fun V hV => by obtain ⟨c0, c1, c2, c3⟩ := hV; go_simp⟩, ?_⟩
    refine ⟨.pointer (some ⟨zb, zo + k, none⟩), .inl ⟨rfl, fun V hV => by obtain ⟨c0, c1, c2, c3⟩ := hV; go_simp⟩, ?_⟩
    refine ⟨.string ⟨sv.toArray⟩, .inl ⟨rfl, fun V hV => by obtain ⟨c0, c1, c2, c3⟩ := hV; go_simp⟩, ?_⟩
    refine ⟨rfl, ?_⟩
    go_simp
    refine ⟨⟨(World.cell?_alloc_lt _ _ _ (by show w.heap.size < _; omega)).trans e1, (World.cell?_alloc_lt _ _ _ (by show r < _; omega)).trans e3, (World.cell?_alloc_lt _ _ _ (by show zb < _; omega)).trans hzk⟩, ?_⟩
    have hkp : Keeps w.heap.size (fun k => k = w.heap.size + 1 + 1) W W.drew := Keeps.below (fun k (hk : k = w.heap.size + 1 + 1) => by omega) (by omega) (Below.refl _ _).drew
    have hbW2 : Below w.heap.size w W.drew := hbW.drew
    have hv2 : Boxed W.drew (w.heap.size + 1) 23 v := hv
    have hrow2 : W.drew.ownsRow w.heap.size 9 1 v i (((namesL s ss).take i).map fun z => .string ⟨z.toArray⟩) := hrow
    have hrowA : (W.alloc (.cells #[.string ⟨sv.toArray⟩] 9)).drew.ownsRow w.heap.size 9 1 v i (((namesL s ss).take i).map fun z => .string ⟨z.toArray⟩) := hrow2.alloc _
    have hcA : ∀ (j : Nat) (u : Value), [Value.string ⟨sv.toArray⟩][j]? = some u → (W.alloc (.cells #[.string ⟨sv.toArray⟩] 9)).drew.cell? ((⟨W.heap.size, 0, none⟩ : Addr).add j) = some u := cell_one_new _ _ _
    have hbA : w.heap.size ≤ (W.alloc (.cells #[.string ⟨sv.toArray⟩] 9)).drew.heap.size := by show _ ≤ (W.alloc _).heap.size; simp; omega
    have Hn0 := Lib.hid (show w.heap.size ≤ W.drew.heap.size from (by show _ ≤ W.heap.size; omega))
    have Hn1 := Lib.hid (show ∀ k, (k = w.heap.size ∨ k = w.heap.size + 1 + 1) → k < W.drew.heap.size from fun k hk => (by show _ < W.heap.size; omega))
    have hrowA0 := Lib.hid hrow2
    clear hv hrow e1 e3 hzk hbW hrow2
    gi_wp2_with (gi_at_builtin; refine wpListIn_append_at _ rfl _ _ 23 rfl w.heap.size 9 i0 (.string ⟨#[]⟩) 1 16 Tryz.underlying23 hi0 hz0 hz1 hz2 rfl (by decide) _ _ _ rfl hrowA ⟨W.heap.size, 0, none⟩ 1 1 [.string ⟨sv.toArray⟩] rfl rfl hcA (by simp [Value.oneCell']) (by simp only [maxLen]; omega) (by omega) hbA ?_; intro v' w1 hown' hgrow hat'; obtain ⟨g', cap', rfl⟩ := ownsRow_succ hown'; have hap := boxed_appendedK (O := fun k => k = w.heap.size ∨ k = w.heap.size + 1 + 1) hv2 (by decide) (W := W.drew) hrowA0.out Hn0.out (by omega) (by simp) Hn1.out hgO hown' hgrow hat'; obtain ⟨hv1, hv3, hr2, hk2, hb2, hg2⟩ := hap; have hc1 := hv1.cell; have hf1 := hv1.frozen)
    rw [HL.out] at hr2
    exact ⟨hkp.trans (hk2.less fun k hk => .inr hk), hbW2.trans hb2, (hk2.own _ (.inl rfl)).trans e0, _, hv3, hr2, hg2⟩
  case done =>
    rintro D W hD ⟨hbW, _, v, hv, hrow, hgO⟩ hK
    have e0 := hv.cell
    have hnl : (namesL s ss).length = (bitsL s 32).length := by simp [namesL]
    rw [← hnl, List.take_length] at hrow
    obtain ⟨A', n', c', rfl, hcn⟩ : ∃ A' n' c', v = .slice A' n' c' ∧ n' ≤ c' := by
      rcases hrow.2 with ⟨h, _⟩ | ⟨g, cap, cur, h, _, _, hc, _⟩
      · exact ⟨_, _, _, h, Nat.le_refl _⟩
      · exact ⟨_, _, _, h, hc⟩
    have hn' : n' = (namesL s ss).length := by
      rcases hrow.2 with ⟨h, h2⟩ | ⟨g, cap, cur, h, _⟩
      · cases h; exact h2.symm
      · cases h; rfl
    rw [← hn'] at hrow
    have hst := Strs.of_own hrow
    have hj := join_strs A' n' c' _ (namesL s ss) 32 W hst (Nat.le_refl _) hcn (by omega) (fun x hx => by have := hs x (namesL_mem hr Hl.out hx); omega)
    clear hn' hnl hrow
    go_wp2_with (go_at_call 108; refine hj.mono ?_; rintro e w2 ⟨rfl, hb2⟩)
    have hDs : D < W.heap.size := (Array.getElem?_eq_some_iff.1 hK).1
    refine ⟨by simp, .inl ⟨_, _, rfl, run_takeDeferred ((hb2.block _ hDs).trans hK), ?_⟩⟩
    exact ⟨_, results_tmp rfl _ _ _, rfl, below_putObj (hbW.trans (hb2.mono hbW.size)) (by omega)⟩
  case stop =>
    rintro D i c W hD hi h hK
    exact h.elim
end Go.Vir
