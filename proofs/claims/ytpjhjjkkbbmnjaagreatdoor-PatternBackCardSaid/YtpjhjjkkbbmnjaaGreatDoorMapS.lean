/- Maps from strings to ints, as lists of pairs. No program. -/
import Derived.Test.YtpjhjjkkbbmnjaaGreatDoorMap
import Derived.OwnWalkIn
namespace Go.Vir
open Go Go.RowKit

abbrev KV := List (List UInt8 × Int)

def strV (k : List UInt8) : Value := .string ⟨k.toArray⟩

/-- The entries are these pairs, in this order. -/
def Asc (es : Array MapEntry) (kvs : KV) : Prop := es.toList.map (fun e => (e.key, e.val)) = kvs.map fun x => (strV x.1, Value.int .i64 x.2)

/-- Where a key stands, and its value. -/
def lookKV (k : List UInt8) : KV → Nat → Option (Nat × Int)
  | [], _ => none
  | x :: t, i => if x.1 = k then some (i, x.2) else lookKV k t (i + 1)
/-- A key gets a value. -/
def updKV (k : List UInt8) (v : Int) : KV → KV
  | [] => [(k, v)]
  | x :: t => if x.1 = k then (k, v) :: t else x :: updKV k v t

theorem bytes_eq (a b : List UInt8) : ((⟨a.toArray⟩ : ByteArray) == ⟨b.toArray⟩) = decide (a = b) := by
  show (a.toArray == b.toArray) = decide (a = b)
  rw [Bool.eq_iff_iff, beq_iff_eq, decide_eq_true_eq]
  exact ⟨fun h => by simpa using h, fun h => by rw [h]⟩

theorem findNow_asc (k : List UInt8) : ∀ (l : List MapEntry) (kvs : KV) (i : Nat), l.map (fun e => (e.key, e.val)) = kvs.map (fun x => (strV x.1, Value.int .i64 x.2)) →
    Instr.findNow .string (strV k) l i = some ((lookKV k kvs i).map fun x => (x.1, Value.int .i64 x.2))
  | [], [], _, _ => rfl
  | [], _ :: _, _, h => by simp at h
  | _ :: _, [], _, h => by simp at h
  | e :: l, x :: t, i, h => by
    simp only [List.map_cons, List.cons.injEq, Prod.mk.injEq] at h
    obtain ⟨⟨h1, h2⟩, h3⟩ := h
    unfold Instr.findNow
    rw [h1, h2]
    have hs : Instr.sameNow .string (strV k) (strV x.1) = some (decide (x.1 = k)) := by
      show some ((⟨k.toArray⟩ : ByteArray) == ⟨x.1.toArray⟩) = _
      rw [bytes_eq]
      congr 1
      rw [decide_eq_decide]
      exact eq_comm
    rw [hs]
    by_cases hk : x.1 = k
    · simp [hk, lookKV]
    · simp only [hk, decide_false, lookKV, if_false]
      exact findNow_asc k l t (i + 1) h3

theorem lookKV_none {k : List UInt8} : ∀ {kvs : KV} {i : Nat}, lookKV k kvs i = none ↔ kvs.any (fun x => decide (x.1 = k)) = false
  | [], _ => by simp [lookKV]
  | x :: t, i => by
    unfold lookKV
    by_cases hk : x.1 = k
    · simp [hk]
    · simp only [hk, if_false, List.any_cons, decide_false, Bool.false_or]
      exact lookKV_none
theorem lookKV_some {k : List UInt8} : ∀ {kvs : KV} {i j : Nat} {v : Int}, lookKV k kvs i = some (j, v) → ∃ h : j - i < kvs.length, i ≤ j ∧ kvs[j - i] = (k, v)
  | [], _, _, _, h => by simp [lookKV] at h
  | x :: t, i, j, v, h => by
    unfold lookKV at h
    by_cases hk : x.1 = k
    · rw [if_pos hk] at h
      simp only [Option.some.injEq, Prod.mk.injEq] at h
      obtain ⟨rfl, rfl⟩ := h
      exact ⟨by simp, Nat.le_refl _, by simp [← hk]⟩
    · rw [if_neg hk] at h
      obtain ⟨h1, h2, h3⟩ := lookKV_some h
      refine ⟨by simp; omega, by omega, ?_⟩
      have : j - i = (j - (i + 1)) + 1 := by omega
      simp only [this, List.getElem_cons_succ]
      exact h3

theorem updKV_new {k : List UInt8} {v : Int} : ∀ {kvs : KV} {i : Nat}, lookKV k kvs i = none → updKV k v kvs = kvs ++ [(k, v)]
  | [], _, _ => rfl
  | x :: t, i, h => by
    unfold lookKV at h
    by_cases hk : x.1 = k
    · rw [if_pos hk] at h; cases h
    · rw [if_neg hk] at h
      rw [updKV, if_neg hk, updKV_new h]; rfl
theorem updKV_at {k : List UInt8} (v : Int) : ∀ {kvs : KV} {i j : Nat} {u : Int}, lookKV k kvs i = some (j, u) → updKV k v kvs = kvs.set (j - i) (k, v)
  | [], _, _, _, h => by simp [lookKV] at h
  | x :: t, i, j, u, h => by
    unfold lookKV at h
    by_cases hk : x.1 = k
    · rw [if_pos hk] at h
      simp only [Option.some.injEq, Prod.mk.injEq] at h
      obtain ⟨rfl, rfl⟩ := h
      simp [updKV, hk]
    · rw [if_neg hk] at h
      have h2 := (lookKV_some h).2.1
      rw [updKV, if_neg hk, updKV_at v h, show j - i = (j - (i + 1)) + 1 by omega, List.set_cons_succ]

section
variable {P : Program} {t K E : TypeId} {r : Nat} {es : Array MapEntry} {clock : Nat} {w : World} {kvs : KV} {k : List UInt8}

theorem run_look_kv (ok : Bool) (ht : P.underlying t = some (.map K E)) (hk : P.underlying K = some .string) (hz : (zeroValue E).run P w = .ok (.int .i64 0) w) (hb : w.heap[r]? = some (.map es clock)) (ha : Asc es kvs) :
    (Instr.lookup t (.map (some r)) (strV k) ok).run P w = .ok (if ok then .tuple #[.int .i64 (((lookKV k kvs 0).map (·.2)).getD 0), .bool (lookKV k kvs 0).isSome] else .int .i64 (((lookKV k kvs 0).map (·.2)).getD 0)) w := by
  have hf := findNow_asc k es.toList kvs 0 ha
  rcases hl : lookKV k kvs 0 with _ | ⟨i, v⟩
  · rw [hl] at hf
    rw [run_lookup_none ok ht hk rfl hb hz hf]
    rfl
  · rw [hl] at hf
    rw [run_lookup_at ok ht hk rfl hb hf]
    rfl

theorem run_upd_kv (v : Int) (ht : P.underlying t = some (.map K E)) (hk : P.underlying K = some .string) (hb : w.heap[r]? = some (.map es clock)) (ha : Asc es kvs) :
    ∃ es' clock', (Instr.mapUpdate t (.map (some r)) (strV k) (.int .i64 v)).run P w = .ok () (w.putObj r (.map es' clock')) ∧ Asc es' (updKV k v kvs) := by
  have hf := findNow_asc k es.toList kvs 0 ha
  rcases hl : lookKV k kvs 0 with _ | ⟨i, u⟩
  · rw [hl] at hf
    refine ⟨_, _, run_insert_new ht hk rfl hb hf, ?_⟩
    unfold Asc at ha ⊢
    rw [Array.toList_push, List.map_append, ha, updKV_new hl, List.map_append]
    rfl
  · rw [hl] at hf
    obtain ⟨h1, h2, h3⟩ := lookKV_some hl
    simp only [Nat.sub_zero] at h1 h3
    have hlen : es.toList.length = kvs.length := by
      have := congrArg List.length ha
      simpa using this
    have hes : (es[i]?).map (·.key) = some (strV k) := by
      have h4 : (es.toList.map (fun e => (e.key, e.val)))[i]? = some (strV k, Value.int .i64 u) := by
        rw [ha, List.getElem?_map, List.getElem?_eq_getElem h1, h3]; rfl
      rw [List.getElem?_map] at h4
      rw [← Array.getElem?_toList]
      cases hh : es.toList[i]? with
      | none => rw [hh] at h4; cases h4
      | some e => rw [hh] at h4; simp only [Option.map_some, Option.some.injEq, Prod.mk.injEq] at h4; simp [h4.1]
    have hkey : ((es[i]?).map (·.key)).getD (strV k) = strV k := by rw [hes]; rfl
    have hsame : Instr.sameBits 10000 (strV k) (strV k) = true := by
      show ((⟨k.toArray⟩ : ByteArray) == ⟨k.toArray⟩) = true
      rw [bytes_eq]; simp
    refine ⟨es.modify i fun e => { e with key := strV k, val := .int .i64 v }, clock, ?_, ?_⟩
    · unfold Instr.mapUpdate
      simp only [Sem.run_bind, run_underlying ht, Result.andThen, run_getMap hb, run_checkKey false hk rfl, run_findKey hk hf, Option.map_some, hkey, Instr.keyThatStays, hsame, if_true, Sem.run_pure, run_setMap _ hb]
    · unfold Asc
      have hu := updKV_at v hl
      simp only [Nat.sub_zero] at hu
      rw [hu]
      apply List.ext_getElem?
      intro j
      have hj : (es.toList.map (fun e => (e.key, e.val)))[j]? = (kvs.map fun x => (strV x.1, Value.int .i64 x.2))[j]? := by rw [ha]
      rw [List.getElem?_map, List.getElem?_map] at hj
      rw [List.getElem?_map, List.getElem?_map, Array.toList_modify, List.getElem?_modify, List.getElem?_set]
      by_cases hij : i = j
      · subst hij
        rw [if_pos rfl, if_pos h1]
        cases hh : es.toList[i]? with
        | none => rw [List.getElem?_eq_none_iff] at hh; omega
        | some e => simp
      · rw [if_neg hij]
        simpa [hij] using hj
end

/-- The value of a key. -/
def valKV (k : List UInt8) : KV → Option Int
  | [] => none
  | x :: t => if x.1 = k then some x.2 else valKV k t
theorem look_val (k : List UInt8) : ∀ (kvs : KV) (i : Nat), (lookKV k kvs i).map (·.2) = valKV k kvs
  | [], _ => rfl
  | x :: t, i => by
    unfold lookKV valKV
    by_cases hk : x.1 = k
    · simp [hk]
    · simp only [hk, if_false]; exact look_val k t (i + 1)
theorem valKV_upd (k : List UInt8) (v : Int) (k' : List UInt8) : ∀ kvs : KV, valKV k' (updKV k v kvs) = if k = k' then some v else valKV k' kvs
  | [] => by simp [updKV, valKV]
  | x :: t => by
    unfold updKV
    by_cases hk : x.1 = k
    · simp only [hk, if_true, valKV]
      by_cases h2 : k = k'
      · simp [h2]
      · simp [h2]
    · simp only [hk, if_false, valKV]
      rw [valKV_upd k v k' t]
      by_cases h2 : x.1 = k'
      · have : ¬ k = k' := fun h => hk (by rw [h2, h])
        simp [h2, this]
      · simp [h2]
theorem length_upd (k : List UInt8) (v : Int) : ∀ kvs : KV, (updKV k v kvs).length = if (valKV k kvs).isSome then kvs.length else kvs.length + 1
  | [] => by simp [updKV, valKV]
  | x :: t => by
    unfold updKV valKV
    by_cases hk : x.1 = k
    · simp [hk]
    · simp only [hk, if_false, List.length_cons, length_upd k v t]
      split <;> rfl

/-- The names by their values, the first ones counting: built from behind. -/
def kvOf : List (List UInt8) → Nat → KV
  | [], _ => []
  | s :: t, i => updKV s i (kvOf t (i + 1))
/-- Which value a name has: the first place at which it stands. -/
def valB (k : List UInt8) : List (List UInt8) → Nat → Option Int
  | [], _ => none
  | s :: t, i => if s = k then some (i : Int) else valB k t (i + 1)
theorem valKV_kvOf (k : List UInt8) : ∀ (ss : List (List UInt8)) (i : Nat), valKV k (kvOf ss i) = valB k ss i
  | [], _ => rfl
  | s :: t, i => by
    rw [kvOf, valKV_upd, valKV_kvOf k t (i + 1), valB]
theorem valB_isSome (k : List UInt8) : ∀ (ss : List (List UInt8)) (i : Nat), (valB k ss i).isSome = decide (k ∈ ss)
  | [], _ => by simp [valB]
  | s :: t, i => by
    unfold valB
    by_cases hk : s = k
    · simp [hk]
    · simp only [hk, if_false, valB_isSome k t (i + 1), List.mem_cons]
      rw [decide_eq_decide]
      constructor
      · exact .inr
      · rintro (h | h)
        · exact absurd h.symm hk
        · exact h
theorem length_kvOf : ∀ (ss : List (List UInt8)) (i : Nat), (kvOf ss i).length ≤ ss.length ∧ ((kvOf ss i).length = ss.length ↔ ss.Nodup)
  | [], _ => by simp [kvOf]
  | s :: t, i => by
    obtain ⟨h1, h2⟩ := length_kvOf t (i + 1)
    rw [kvOf, length_upd, valKV_kvOf, valB_isSome, List.nodup_cons]
    by_cases hs : s ∈ t
    · simp only [hs, decide_true, if_true, List.length_cons, not_true, false_and, iff_false]
      omega
    · simp only [hs, decide_false, Bool.false_eq_true, if_false, List.length_cons, not_false_eq_true, true_and]
      rw [← h2]
      omega
theorem size_asc {es : Array MapEntry} {kvs : KV} (h : Asc es kvs) : es.size = kvs.length := by
  have := congrArg List.length h
  simpa using this
theorem kvOf_drop (ss : List (List UInt8)) (j : Nat) (h : j < ss.length) : kvOf (ss.drop j) j = updKV ss[j] j (kvOf (ss.drop (j + 1)) (j + 1)) := by
  rw [List.drop_eq_getElem_cons h, kvOf]

theorem wpListIn_upd_kv {F : Fence} {n : Nat} {P : Program} {t K E : TypeId} {r : Nat} {es : Array MapEntry} {clock : Nat} {w : World} {kvs : KV} {k : List UInt8} {v : Int}
    {ops : Array Oper} {rest : List Oper} {o : Oper} {a : Act} {Q : Exit → Act → World → Prop} (hg : o.guard = none) {m kk x : Operand} (hop : o.op = .mapUpdate t m kk x)
    (hm : a.eval m = .map (some r)) (hkv : a.eval kk = strV k) (hxv : a.eval x = .int .i64 v)
    (ht : P.underlying t = some (.map K E)) (hk : P.underlying K = some .string) (hb : w.heap[r]? = some (.map es clock)) (ha : Asc es kvs)
    (h : ∀ es' clock', Asc es' (updKV k v kvs) → wpListIn F n P ops Q rest (a.put o.dst undef) (w.putObj r (.map es' clock'))) : wpListIn F n P ops Q (o :: rest) a w := by
  obtain ⟨es', clock', hrun, h1⟩ := run_upd_kv (P := P) (t := t) (k := k) v ht hk hb ha
  refine wpListIn_plain hg fun Kn hK => ?_
  unfold Oper.wpIn
  refine ⟨?_, ?_⟩
  · simp [Oper.about, hop]
  · rw [Oper.semAt_plain F _ _ (by rw [hop]; intro c hc'; cases hc')]
    simp only [execOp, hop, hm, hkv, hxv, Sem.run_bind, hrun, Result.andThen]
    exact hK _ _ (h es' clock' h1)

theorem wpList_upd_kv {P : Program} {t K E : TypeId} {r : Nat} {es : Array MapEntry} {clock : Nat} {w : World} {kvs : KV} {k : List UInt8} {v : Int}
    {ops : Array Oper} {rest : List Oper} {o : Oper} {a : Act} {Q : Exit → Act → World → Prop} (hg : o.guard = none) {m kk x : Operand} (hop : o.op = .mapUpdate t m kk x)
    (hm : a.eval m = .map (some r)) (hkv : a.eval kk = strV k) (hxv : a.eval x = .int .i64 v)
    (ht : P.underlying t = some (.map K E)) (hk : P.underlying K = some .string) (hb : w.heap[r]? = some (.map es clock)) (ha : Asc es kvs)
    (h : ∀ es' clock', Asc es' (updKV k v kvs) → wpList P ops Q rest (a.put o.dst undef) (w.putObj r (.map es' clock'))) : wpList P ops Q (o :: rest) a w := by
  obtain ⟨es', clock', hrun, h1⟩ := run_upd_kv (P := P) (t := t) (k := k) v ht hk hb ha
  refine wpList_plain hg fun Kn hK => ?_
  unfold Oper.wp
  simp only [execOp, hop, hm, hkv, hxv, Sem.run_bind, hrun, Result.andThen]
  exact hK _ _ (h es' clock' h1)

/-- The names by their values, built from ahead. -/
def kvF (ss : List (List UInt8)) : Nat → KV
  | 0 => []
  | k + 1 => updKV (ss.getD k []) (k : Int) (kvF ss k)
theorem kvF_succ (ss : List (List UInt8)) (k : Nat) (h : k < ss.length) : kvF ss (k + 1) = updKV ss[k] (k : Int) (kvF ss k) := by
  simp [kvF, List.getD_eq_getElem?_getD, h]
theorem valKV_kvF (k : List UInt8) (ss : List (List UInt8)) (hn : ss.Nodup) : ∀ n, n ≤ ss.length → valKV k (kvF ss n) = valB k (ss.take n) 0
  | 0, _ => by simp [kvF, valKV, valB]
  | n + 1, h => by
    rw [kvF_succ ss n (by omega), valKV_upd, valKV_kvF k ss hn n (by omega), List.take_succ_eq_append_getElem (by omega)]
    have hap : ∀ (l : List (List UInt8)) (x : List UInt8) (i : Nat), x ∉ l → valB k (l ++ [x]) i = if x = k then some ((i + l.length : Nat) : Int) else valB k l i := by
      intro l
      induction l with
      | nil => intro x i _; simp [valB]
      | cons y t ih =>
        intro x i hx
        simp only [List.mem_cons, not_or] at hx
        simp only [List.cons_append, valB]
        by_cases hy : y = k
        · have : ¬ x = k := fun e => hx.1 (by rw [e, hy])
          simp [hy, this]
        · simp only [hy, if_false]
          rw [ih x (i + 1) hx.2, List.length_cons, show i + 1 + t.length = i + (t.length + 1) by omega]
    have hx : ss[n] ∉ ss.take n := by
      intro hm
      obtain ⟨j, hj, he⟩ := List.getElem_of_mem hm
      rw [List.getElem_take] at he
      rw [List.length_take] at hj
      have := (List.nodup_iff_pairwise_ne.1 hn)
      have h2 := List.pairwise_iff_getElem.1 this j n (by omega) (by omega) (by omega)
      exact h2 he
    rw [hap _ _ _ hx, List.length_take, show 0 + min n ss.length = n by omega]
theorem valB_range (k : List UInt8) : ∀ (ss : List (List UInt8)) (i : Nat) (v : Int), valB k ss i = some v → ∃ j : Nat, v = ((i + j : Nat) : Int) ∧ j < ss.length
  | [], _, _, h => by simp [valB] at h
  | s :: t, i, v, h => by
    unfold valB at h
    by_cases hk : s = k
    · rw [if_pos hk] at h; cases h; exact ⟨0, rfl, by simp⟩
    · rw [if_neg hk] at h
      obtain ⟨j, h1, h2⟩ := valB_range k t (i + 1) v h
      exact ⟨j + 1, by omega, by simpa using h2⟩
end Go.Vir
