/- Joined texts: MapS, WkH, Text, Strs, Round, Held, WkL, Errs, Told, Scope, Is, WkF, WkR, WkU, WkV, Sub, Few5, Scb, Trl, Rg1, Rg2, Rg3. -/
import Derived.Test.YtjbeaheenfcgdaaGreatDoorDa
import Derived.Test.YtjbeaheenfcgdaaGreatDoorShelf
import Derived.Test.YtjbeaheenfcgdaaGreatDoorProg
import Derived.OwnWalkIn
import Derived.Deep.Cut
import Derived.Lib.Split
import Derived.Lib.Join
import Derived.Lib.Repeat
import Derived.Lib.TrimByte
import Derived.StillTailTactics
import Derived.OrdersIn
import Derived.OrdersHeld
import Derived.BigQuiet
import Derived.Laws.BitsAllLaws
import Derived.LaidEql
import Derived.Stop.Asserts
import Derived.RowKitTokens
import Derived.ScopeJumps
import Derived.WalkMore
import Derived.Deep.RegionHeld3
import Derived.Deep.DeepCutAuto
import Derived.Lib.SlicesCompact
import Derived.Shelf.Strings.BuilderRune
import Derived.BigCall
import Derived.Laws.IdiomStrings
import Derived.Deep.RegionLaw
import Derived.Lib.Strings
import Derived.Deep.QuietTactic
import Derived.Maps.AppendAt
namespace Go.Vir
open Go Go.RowKit

abbrev KV := List (List UInt8 × Int)

def strV (k : List UInt8) : Value := .string ⟨k.toArray⟩

def Asc (es : Array MapEntry) (kvs : KV) : Prop := es.toList.map (fun e => (e.key, e.val)) = kvs.map fun x => (strV x.1, Value.int .i64 x.2)

def lookKV (k : List UInt8) : KV → Nat → Option (Nat × Int)
  | [], _ => none
  | x :: t, i => if x.1 = k then some (i, x.2) else lookKV k t (i + 1)
def updKV (k : List UInt8) (v : Int) : KV → KV
  | [] => [(k, v)]
  | x :: t => if x.1 = k then (k, v) :: t else x :: updKV k v t

theorem bytes_eq (a b : List UInt8) : ((⟨a.toArray⟩ : ByteArray) == ⟨b.toArray⟩) = decide (a = b) := by
  show (a.toArray == b.toArray) = decide (a = b)
  rw [Bool.eq_iff_iff, beq_iff_eq, decide_eq_true_eq]
  exact ⟨fun h => by simpa using h, fun h => by rw [h]⟩

theorem findNow_asc (k : List UInt8) : ∀ (l : List MapEntry) (kvs : KV) (i : Nat), l.map (fun e => (e.key, e.val)) = kvs.map (fun x => (strV x.1, Value.int .i64 x.2)) →
    Instr.findNow .string (strV k) l i = some ((lookKV k kvs i).map fun x => (x.1, Value.int .i64 x.2))
  | [], [], _, _ => rfl
  | [], _ :: _, _, h => by simp at h
  | _ :: _, [], _, h => by simp at h
  | e :: l, x :: t, i, h => by
    simp only [List.map_cons, List.cons.injEq, Prod.mk.injEq] at h
    obtain ⟨⟨h1, h2⟩, h3⟩ := h
    unfold Instr.findNow
    rw [h1, h2]
    have hs : Instr.sameNow .string (strV k) (strV x.1) = some (decide (x.1 = k)) := by
      show some ((⟨k.toArray⟩ : ByteArray) == ⟨x.1.toArray⟩) = _
      rw [bytes_eq]
      congr 1
      rw [decide_eq_decide]
      exact eq_comm
    rw [hs]
    by_cases hk : x.1 = k
    · simp [hk, lookKV]
    · simp only [hk, decide_false, lookKV, if_false]
      exact findNow_asc k l t (i + 1) h3

theorem lookKV_some {k : List UInt8} : ∀ {kvs : KV} {i j : Nat} {v : Int}, lookKV k kvs i = some (j, v) → ∃ h : j - i < kvs.length, i ≤ j ∧ kvs[j - i] = (k, v)
  | [], _, _, _, h => by simp [lookKV] at h
  | x :: t, i, j, v, h => by
    unfold lookKV at h
    by_cases hk : x.1 = k
    · rw [if_pos hk] at h
      simp only [Option.some.injEq, Prod.mk.injEq] at h
      obtain ⟨rfl, rfl⟩ := h
      exact ⟨by simp, Nat.le_refl _, by simp [← hk]⟩
    · rw [if_neg hk] at h
      obtain ⟨h1, h2, h3⟩ := lookKV_some h
      refine ⟨by simp; omega, by omega, ?_⟩
      have : j - i = (j - (i + 1)) + 1 := by omega
      simp only [this, List.getElem_cons_succ]
      exact h3

theorem updKV_new {k : List UInt8} {v : Int} : ∀ {kvs : KV} {i : Nat}, lookKV k kvs i = none → updKV k v kvs = kvs ++ [(k, v)]
  | [], _, _ => rfl
  | x :: t, i, h => by
    unfold lookKV at h
    by_cases hk : x.1 = k
    · rw [if_pos hk] at h; cases h
    · rw [if_neg hk] at h
      rw [updKV, if_neg hk, updKV_new h]; rfl
theorem updKV_at {k : List UInt8} (v : Int) : ∀ {kvs : KV} {i j : Nat} {u : Int}, lookKV k kvs i = some (j, u) → updKV k v kvs = kvs.set (j - i) (k, v)
  | [], _, _, _, h => by simp [lookKV] at h
  | x :: t, i, j, u, h => by
    unfold lookKV at h
    by_cases hk : x.1 = k
    · rw [if_pos hk] at h
      simp only [Option.some.injEq, Prod.mk.injEq] at h
      obtain ⟨rfl, rfl⟩ := h
      simp [updKV, hk]
    · rw [if_neg hk] at h
      have h2 := (lookKV_some h).2.1
      rw [updKV, if_neg hk, updKV_at v h, show j - i = (j - (i + 1)) + 1 by omega, List.set_cons_succ]

section
variable {P : Program} {t K E : TypeId} {r : Nat} {es : Array MapEntry} {clock : Nat} {w : World} {kvs : KV} {k : List UInt8}

theorem run_look_kv (ok : Bool) (ht : P.underlying t = some (.map K E)) (hk : P.underlying K = some .string) (hz : (zeroValue E).run P w = .ok (.int .i64 0) w) (hb : w.heap[r]? = some (.map es clock)) (ha : Asc es kvs) :
    (Instr.lookup t (.map (some r)) (strV k) ok).run P w = .ok (if ok then .tuple #[.int .i64 (((lookKV k kvs 0).map (·.2)).getD 0), .bool (lookKV k kvs 0).isSome] else .int .i64 (((lookKV k kvs 0).map (·.2)).getD 0)) w := by
  have hf := findNow_asc k es.toList kvs 0 ha
  rcases hl : lookKV k kvs 0 with _ | ⟨i, v⟩
  · rw [hl] at hf
    rw [run_lookup_none ok ht hk rfl hb hz hf]
    rfl
  · rw [hl] at hf
    rw [run_lookup_at ok ht hk rfl hb hf]
    rfl

theorem run_upd_kv (v : Int) (ht : P.underlying t = some (.map K E)) (hk : P.underlying K = some .string) (hb : w.heap[r]? = some (.map es clock)) (ha : Asc es kvs) :
    ∃ es' clock', (Instr.mapUpdate t (.map (some r)) (strV k) (.int .i64 v)).run P w = .ok () (w.putObj r (.map es' clock')) ∧ Asc es' (updKV k v kvs) := by
  have hf := findNow_asc k es.toList kvs 0 ha
  rcases hl : lookKV k kvs 0 with _ | ⟨i, u⟩
  · rw [hl] at hf
    refine ⟨_, _, run_insert_new ht hk rfl hb hf, ?_⟩
    unfold Asc at ha ⊢
    rw [Array.toList_push, List.map_append, ha, updKV_new hl, List.map_append]
    rfl
  · rw [hl] at hf
    obtain ⟨h1, h2, h3⟩ := lookKV_some hl
    simp only [Nat.sub_zero] at h1 h3
    have hlen : es.toList.length = kvs.length := by
      have := congrArg List.length ha
      simpa using this
    have hes : (es[i]?).map (·.key) = some (strV k) := by
      have h4 : (es.toList.map (fun e => (e.key, e.val)))[i]? = some (strV k, Value.int .i64 u) := by
        rw [ha, List.getElem?_map, List.getElem?_eq_getElem h1, h3]; rfl
      rw [List.getElem?_map] at h4
      rw [← Array.getElem?_toList]
      cases hh : es.toList[i]? with
      | none => rw [hh] at h4; cases h4
      | some e => rw [hh] at h4; simp only [Option.map_some, Option.some.injEq, Prod.mk.injEq] at h4; simp [h4.1]
    have hkey : ((es[i]?).map (·.key)).getD (strV k) = strV k := by rw [hes]; rfl
    have hsame : Instr.sameBits 10000 (strV k) (strV k) = true := by
      show ((⟨k.toArray⟩ : ByteArray) == ⟨k.toArray⟩) = true
      rw [bytes_eq]; simp
    refine ⟨es.modify i fun e => { e with key := strV k, val := .int .i64 v }, clock, ?_, ?_⟩
    · unfold Instr.mapUpdate
      simp only [Sem.run_bind, run_underlying ht, Result.andThen, run_getMap hb, run_checkKey false hk rfl, run_findKey hk hf, Option.map_some, hkey, Instr.keyThatStays, hsame, if_true, Sem.run_pure, run_setMap _ hb]
    · unfold Asc
      have hu := updKV_at v hl
      simp only [Nat.sub_zero] at hu
      rw [hu]
      apply List.ext_getElem?
      intro j
      have hj : (es.toList.map (fun e => (e.key, e.val)))[j]? = (kvs.map fun x => (strV x.1, Value.int .i64 x.2))[j]? := by rw [ha]
      rw [List.getElem?_map, List.getElem?_map] at hj
      rw [List.getElem?_map, List.getElem?_map, Array.toList_modify, List.getElem?_modify, List.getElem?_set]
      by_cases hij : i = j
      · subst hij
        rw [if_pos rfl, if_pos h1]
        cases hh : es.toList[i]? with
        | none => rw [List.getElem?_eq_none_iff] at hh; omega
        | some e => simp
      · rw [if_neg hij]
        simpa [hij] using hj
end

def valKV (k : List UInt8) : KV → Option Int
  | [] => none
  | x :: t => if x.1 = k then some x.2 else valKV k t
theorem look_val (k : List UInt8) : ∀ (kvs : KV) (i : Nat), (lookKV k kvs i).map (·.2) = valKV k kvs
  | [], _ => rfl
  | x :: t, i => by
    unfold lookKV valKV
    by_cases hk : x.1 = k
    · simp [hk]
    · simp only [hk, if_false]; exact look_val k t (i + 1)
theorem valKV_upd (k : List UInt8) (v : Int) (k' : List UInt8) : ∀ kvs : KV, valKV k' (updKV k v kvs) = if k = k' then some v else valKV k' kvs
  | [] => by simp [updKV, valKV]
  | x :: t => by
    unfold updKV
    by_cases hk : x.1 = k
    · simp only [hk, if_true, valKV]
      by_cases h2 : k = k'
      · simp [h2]
      · simp [h2]
    · simp only [hk, if_false, valKV]
      rw [valKV_upd k v k' t]
      by_cases h2 : x.1 = k'
      · have : ¬ k = k' := fun h => hk (by rw [h2, h])
        simp [h2, this]
      · simp [h2]
theorem length_upd (k : List UInt8) (v : Int) : ∀ kvs : KV, (updKV k v kvs).length = if (valKV k kvs).isSome then kvs.length else kvs.length + 1
  | [] => by simp [updKV, valKV]
  | x :: t => by
    unfold updKV valKV
    by_cases hk : x.1 = k
    · simp [hk]
    · simp only [hk, if_false, List.length_cons, length_upd k v t]
      split <;> rfl

def kvOf : List (List UInt8) → Nat → KV
  | [], _ => []
  | s :: t, i => updKV s i (kvOf t (i + 1))
def valB (k : List UInt8) : List (List UInt8) → Nat → Option Int
  | [], _ => none
  | s :: t, i => if s = k then some (i : Int) else valB k t (i + 1)
theorem valKV_kvOf (k : List UInt8) : ∀ (ss : List (List UInt8)) (i : Nat), valKV k (kvOf ss i) = valB k ss i
  | [], _ => rfl
  | s :: t, i => by
    rw [kvOf, valKV_upd, valKV_kvOf k t (i + 1), valB]
theorem valB_isSome (k : List UInt8) : ∀ (ss : List (List UInt8)) (i : Nat), (valB k ss i).isSome = decide (k ∈ ss)
  | [], _ => by simp [valB]
  | s :: t, i => by
    unfold valB
    by_cases hk : s = k
    · simp [hk]
    · simp only [hk, if_false, valB_isSome k t (i + 1), List.mem_cons]
      rw [decide_eq_decide]
      constructor
      · exact .inr
      · rintro (h | h)
        · exact absurd h.symm hk
        · exact h
theorem length_kvOf : ∀ (ss : List (List UInt8)) (i : Nat), (kvOf ss i).length ≤ ss.length ∧ ((kvOf ss i).length = ss.length ↔ ss.Nodup)
  | [], _ => by simp [kvOf]
  | s :: t, i => by
    obtain ⟨h1, h2⟩ := length_kvOf t (i + 1)
    rw [kvOf, length_upd, valKV_kvOf, valB_isSome, List.nodup_cons]
    by_cases hs : s ∈ t
    · simp only [hs, decide_true, if_true, List.length_cons, not_true, false_and, iff_false]
      omega
    · simp only [hs, decide_false, Bool.false_eq_true, if_false, List.length_cons, not_false_eq_true, true_and]
      rw [← h2]
      omega
theorem size_asc {es : Array MapEntry} {kvs : KV} (h : Asc es kvs) : es.size = kvs.length := by
  have := congrArg List.length h
  simpa using this
theorem kvOf_drop (ss : List (List UInt8)) (j : Nat) (h : j < ss.length) : kvOf (ss.drop j) j = updKV ss[j] j (kvOf (ss.drop (j + 1)) (j + 1)) := by
  rw [List.drop_eq_getElem_cons h, kvOf]

theorem wpListIn_upd_kv {F : Fence} {n : Nat} {P : Program} {t K E : TypeId} {r : Nat} {es : Array MapEntry} {clock : Nat} {w : World} {kvs : KV} {k : List UInt8} {v : Int}
    {ops : Array Oper} {rest : List Oper} {o : Oper} {a : Act} {Q : Exit → Act → World → Prop} (hg : o.guard = none) {m kk x : Operand} (hop : o.op = .mapUpdate t m kk x)
    (hm : a.eval m = .map (some r)) (hkv : a.eval kk = strV k) (hxv : a.eval x = .int .i64 v)
    (ht : P.underlying t = some (.map K E)) (hk : P.underlying K = some .string) (hb : w.heap[r]? = some (.map es clock)) (ha : Asc es kvs)
    (h : ∀ es' clock', Asc es' (updKV k v kvs) → wpListIn F n P ops Q rest (a.put o.dst undef) (w.putObj r (.map es' clock'))) : wpListIn F n P ops Q (o :: rest) a w := by
  obtain ⟨es', clock', hrun, h1⟩ := run_upd_kv (P := P) (t := t) (k := k) v ht hk hb ha
  refine wpListIn_plain hg fun Kn hK => ?_
  unfold Oper.wpIn
  refine ⟨?_, ?_⟩
  · simp [Oper.about, hop]
  · rw [Oper.semAt_plain F _ _ (by rw [hop]; intro c hc'; cases hc')]
    simp only [execOp, hop, hm, hkv, hxv, Sem.run_bind, hrun, Result.andThen]
    exact hK _ _ (h es' clock' h1)

theorem valB_range (k : List UInt8) : ∀ (ss : List (List UInt8)) (i : Nat) (v : Int), valB k ss i = some v → ∃ j : Nat, v = ((i + j : Nat) : Int) ∧ j < ss.length
  | [], _, _, h => by simp [valB] at h
  | s :: t, i, v, h => by
    unfold valB at h
    by_cases hk : s = k
    · rw [if_pos hk] at h; cases h; exact ⟨0, rfl, by simp⟩
    · rw [if_neg hk] at h
      obtain ⟨j, h1, h2⟩ := valB_range k t (i + 1) v h
      exact ⟨j + 1, by omega, by simpa using h2⟩
end Go.Vir


namespace Go.Vir
open Go Go.RowKit Go.Proofs Go.Shelf
attribute [local go_sem] Oper.semAt_some

set_option maxHeartbeats 400000 in
theorem backward_make (A : Option Addr) (n c : Nat) (w : World) :
    Calls Tryz.prog 81 #[.slice A n c] w fun e w' =>
      e = .returned (.func (.func 122) #[] #[.pointer (some ⟨w.heap.size, 0, none⟩)]) ∧ w.alloc (.cells #[.slice A n c] 22) = w' := by
  go_enter Tryz.func81, Tryz.ntmps81
  go_wp2
  go_ret
  exact ⟨rfl, rfl⟩

set_option maxHeartbeats 400000 in
theorem backward_iter (B0 b : Nat) (A : Option Addr) (n c : Nat) (ss : List (List UInt8)) (W0 : World) (hb : B0 ≤ b) (hsz : b < W0.heap.size) (hn : n ≤ 1000000)
    (c0 : W0.heap[b]? = some (.cells #[.slice A n c] 22 (0, 0))) (hz : Strs W0 B0 A n ss) :
    Iter Tryz.prog 122 #[.pointer (some ⟨b, 0, none⟩)] n (fun i => #[.int .i64 ((n - 1 - i : Nat) : Int), strV (ss.getD (n - 1 - i) [])]) (fun k => k = b) B0 W0 := by
  intro l J Jx W hW hJ hJx hY h0
  have hlen := hz.len
  have hW' := hW.mono (show B0 ≤ W0.heap.size by omega)
  have c1 : W.heap[b]? = some (.cells #[.slice A n c] 22 (0, 0)) := (hW.block _ hsz).trans c0
  have e1 : W.cell? ⟨b, 0, none⟩ = some (.slice A n c) := by simp [World.cell?, c1]
  have hz1 := hz.below hW'
  refine callsIn_wide.2 ?_
  go_enter Tryz.func122, Tryz.ntmps122
  go_wp2
  go_loopw [3] (fun v wr => ∃ k : Nat, k ≤ n ∧ v = .int .i64 ((k : Int) - 1) ∧ J (n - k) wr ∧ wr.heap[b]? = some (.cells #[.slice A n c] 22 (0, 0)) ∧ Strs wr B0 A n ss) (fun v _ => (RowKit.intOf v + 1).toNat)
  case atStart => exact ⟨n, Nat.le_refl _, rfl, by simpa using h0, c1, hz1⟩
  case round =>
    obtain ⟨k, hk, rfl, hJk, d0, dz⟩ := hrel
    have d1 : wr.cell? ⟨b, 0, none⟩ = some (.slice A n c) := by simp [World.cell?, d0]
    rcases Nat.eq_zero_or_pos k with h00 | hpos
    · subst h00
      go_wp2
      go_end0
      exact ⟨⟨_, rfl⟩, .inl (by simpa using hJk)⟩
    · obtain ⟨m, rfl⟩ : ∃ m, k = m + 1 := ⟨k - 1, by omega⟩
      obtain ⟨zb, zo, rfl, hzb, hzc⟩ := dz.at_ (by omega)
      have hzm := hzc m (by omega)
      rw [show (((m + 1 : Nat) : Int) - 1) = (m : Int) by omega]
      have hy := hY (n - (m + 1)) wr (by omega) hJk
      rw [show n - 1 - (n - (m + 1)) = m by omega, show ss.getD m [] = ss[m]'(by omega) by simp [List.getD_eq_getElem?_getD, show m < ss.length by omega]] at hy
      obtain ⟨fn, tmps, assign, body, hy, hR⟩ := hy
      generalize hsv : ss[m] = sv at hzm hy
      have hy' := Lib.hid hy
      clear hy hsv hlen
      have hmn : m < n := by omega
      have hdec : decide ((m : Int) < 0) = false := by simp
      have hdec2 : decide (m < n) = true := by simpa using hmn
      go_upto_region 3 with (fail)
      refine (wpIn_wide (n := 0)).1 ?_
      have hy : (Instr.yield l #[.int .i64 (m : Int), .string ⟨sv.toArray⟩]).run Tryz.prog wr = .ok (.round l fn tmps assign body) wr := hy'
      clear hdec hdec2 hy'
      gi_wp2
      refine ⟨rfl, hR.mono ?_⟩
      rintro e W' (⟨rfl, hJ', hk'⟩ | ⟨rfl, hJx'⟩)
      · have f0 : W'.heap[b]? = some (.cells #[.slice (some ⟨zb, zo, none⟩) n c] 22 (0, 0)) := (hk'.own _ (by omega)).trans d0
        have fz : Strs W' B0 (some ⟨zb, zo, none⟩) n ss := ⟨dz.len, fun _ => ⟨zb, zo, rfl, hzb, fun j hj => (World.cell?_of_block (hk'.low zb hzb)).trans (hzc j hj)⟩⟩
        gi_wp2
        go_wp2
        go_roundw
        case rel =>
          exact ⟨m, by omega, rfl, by rw [show n - m = n - (m + 1) + 1 by omega]; exact hJ', f0, fz⟩
        case measure => simp [RowKit.intOf]
      · gi_wp2
        go_wp2
        refine bodyPost_ret (results_none rfl _ _ _) rfl ?_
        exact ⟨⟨_, rfl⟩, .inr ⟨_, by omega, hJx'⟩⟩

def SaysS (P : Program) (g : Nat) (lb : Array Value) (p : List UInt8 → Bool) (w : World) : Prop :=
  ∀ (x : List UInt8) (W : World), Below w.heap.size w W → x.length ≤ 1000000 → Calls P g (#[strV x] ++ lb) W fun e w' => e = .returned (.bool (p x)) ∧ Below W.heap.size W w'

set_option maxHeartbeats 400000 in
theorem indexFunc_str {g : Nat} {p : List UInt8 → Bool} (A : Option Addr) (n c : Nat) (xs : List (List UInt8)) (w : World)
    (eg : ∀ args w, (callFunc g args).run Tryz.prog w = .ok (.enter g args) w) (hx : Strs w w.heap.size A n xs) (hs : ∀ x ∈ xs, x.length ≤ 1000000)
    (hp : SaysS Tryz.prog g #[] p w) (hn : n ≤ 1000000) :
    Calls Tryz.prog 139 #[.slice A n c, .func (.func g) #[] #[]] w fun e w' => e = .returned (.int .i64 (firstB p xs)) ∧ Below w.heap.size w w' := by
  go_enter Tryz.func139, Tryz.ntmps139
  go_wp2
  have hlen := hx.len
  go_loopw [8] (fun i wr => ∃ k : Nat, k ≤ n ∧ i = .int .i64 k ∧ (∀ (j : Nat) (h : j < k) (h2 : j < xs.length), p xs[j] = false) ∧ Below w.heap.size w wr) (fun i _ => n - (RowKit.intOf i).toNat)
  case atStart => exact ⟨0, Nat.zero_le _, rfl, fun j h => absurd h (by omega), Below.refl _ _⟩
  case round =>
    obtain ⟨k, hk, rfl, hno, hb⟩ := hrel
    rcases Nat.lt_or_ge k n with hlt | hge
    · obtain ⟨zb, zo, rfl, hzb, hzc⟩ := hx.at_ (by omega)
      have z1 := (cellOf hb hzb).trans (hzc k (by omega))
      have hc := hp xs[k] wr hb (hs _ (List.getElem_mem _))
      go_wp2
      refine hc.mono ?_
      rintro e w1 ⟨rfl, hb1⟩
      rcases hpk : p xs[k] with _ | _
      · have hno' : ∀ (j : Nat) (h : j < k + 1) (h2 : j < xs.length), p xs[j] = false := fun j h h2 => by
          rcases Nat.lt_or_ge j k with h3 | h3
          · exact hno j h3 h2
          · obtain rfl : j = k := by omega
            exact hpk
        have hb2 := hb.trans (hb1.mono hb.size)
        clear hno hb hb1 hc hpk
        go_wp2
        go_roundw
        case rel => exact ⟨k + 1, by omega, by go_num, hno', hb2⟩
        case measure => simp [RowKit.intOf]; omega
      · have hf : firstB p xs = k := firstB_hit (by omega) hpk (fun j h => hno j h (by omega))
        have Hf := Lib.hid hf
        clear hf hpk
        go_wp2
        go_ret
        exact ⟨ret_int Hf.out.symm, hb.trans (hb1.mono hb.size)⟩
    · have hf : firstB p xs = -1 := firstB_none (fun j h => hno j (by omega) h)
      have Hf := Lib.hid hf
      clear hf
      go_wp2
      go_ret
      exact ⟨ret_int Hf.out.symm, hb⟩

set_option maxHeartbeats 400000 in
theorem containsFunc_str {g : Nat} {p : List UInt8 → Bool} (A : Option Addr) (n c : Nat) (xs : List (List UInt8)) (w : World)
    (eg : ∀ args w, (callFunc g args).run Tryz.prog w = .ok (.enter g args) w) (hx : Strs w w.heap.size A n xs) (hs : ∀ x ∈ xs, x.length ≤ 1000000)
    (hp : SaysS Tryz.prog g #[] p w) (hn : n ≤ 1000000) :
    Calls Tryz.prog 97 #[.slice A n c, .func (.func g) #[] #[]] w fun e w' => e = .returned (.bool (xs.any p)) ∧ Below w.heap.size w w' := by
  have hc := indexFunc_str A n c xs w eg hx hs hp hn
  rw [← firstB_ge p xs]
  clear eg hx hp
  go_enter Tryz.func97, Tryz.ntmps97
  go_wp2_with (go_at_call 139; refine hc.mono ?_; rintro e w1 ⟨rfl, hb1⟩)
  go_ret
  exact ⟨rfl, hb1⟩

theorem areNames1 (x : List UInt8) (W : World) (hx : x.length ≤ 1000000) :
    Calls Tryz.prog 95 #[strV x] W fun e w' => e = .returned (.bool (!nameB x)) ∧ Below W.heap.size W w' := by
  have hc := prop_isName ⟨x.toArray⟩ W (by show x.toArray.size ≤ _; simpa using hx)
  go_enter Tryz.func95, Tryz.ntmps95
  go_wp2_with (go_at_call 96; refine hc.mono ?_; rintro e w1 ⟨rfl, hb1⟩)
  go_ret
  exact ⟨rfl, hb1⟩

set_option maxHeartbeats 400000 in
theorem prop_of (A : Option Addr) (n c : Nat) (ss : List (List UInt8)) (w : World) (hn : n ≤ 1000000) (hz : Strs w w.heap.size A n ss) :
    Calls Tryz.prog 45 #[.slice A n c] w fun e w' =>
      ∃ r es clock, e = .returned (.agg #[.slice A n c, .map (some r)]) ∧ w'.heap[r]? = some (.map es clock) ∧ Asc es (kvOf ss 0) ∧ Below w.heap.size w w' := by
  have hmm := @run_makeMap Tryz.prog
  have hlen := hz.len
  have Hl := Lib.hid hlen
  clear hlen
  refine (callsIn_wide (n := 0)).1 ?_
  refine callsIn_of_wp_marks Tryz.func45 rfl trivial ?_ rfl
  simp only [Tryz.ntmps45, List.size_toArray, List.length_cons, List.length_nil, Nat.reduceAdd, Nat.reduceSub, Array.replicate_succ, Array.replicate_zero, List.push_toArray, List.append_toArray, List.nil_append, List.cons_append]
  refine wpIn_wide.2 ?_
  go_wp2_with (go_at_call 81; refine (backward_make _ _ _ _).mono ?_; rintro e w1 ⟨rfl, rfl⟩)
  clear hmm
  refine wp_gen ?_
  intro W1 hW1
  have hsz : W1.heap.size = w.heap.size + 4 := by simp [hW1]
  have hb : Below w.heap.size w W1 := by rw [hW1]; go_grown
  have d0 : W1.heap[w.heap.size]? = some (.cells #[.slice none 0 0, .map none] 72 (0, 0)) := (by rw [hW1]; simp (disch := (first | omega | (simp only [World.size_alloc]; done) | (simp only [World.size_alloc]; omega))) only [heap_laws])
  have d1 : W1.heap[w.heap.size + 1]? = some (.map #[] 0) := (by rw [hW1]; simp (disch := (first | omega | (simp only [World.size_alloc]; done) | (simp only [World.size_alloc]; omega))) only [heap_laws])
  have d2 : W1.heap[w.heap.size + 1 + 1]? = some (.cells #[.map (some (w.heap.size + 1))] 70 (0, 0)) := (by rw [hW1]; simp (disch := (first | omega | (simp only [World.size_alloc]; done) | (simp only [World.size_alloc]; omega))) only [heap_laws])
  have d3 : W1.heap[w.heap.size + 1 + 1 + 1]? = some (.cells #[.slice A n c] 22 (0, 0)) := (by rw [hW1]; simp (disch := (first | omega | (simp only [World.size_alloc]; done) | (simp only [World.size_alloc]; omega))) only [heap_laws])
  clear hW1
  refine (wpIn_wide (n := 0)).1 ?_
  refine range_law (a₁ := ?a1) rfl (enters_of Tryz.func122 (by kernel_rfl) rfl) (backward_iter w.heap.size (w.heap.size + 1 + 1 + 1) A n c ss W1 (by omega) (by omega) hn d3 (hz.below hb)) (Below.refl _ _)
    (fun k hk => by omega) (by omega) (fun _ => rfl)
    (fun i W => Below w.heap.size w W ∧ W.heap[w.heap.size]? = some (.cells #[.slice none 0 0, .map none] 72 (0, 0)) ∧ W.heap[w.heap.size + 1 + 1]? = some (.cells #[.map (some (w.heap.size + 1))] 70 (0, 0)) ∧
      ∃ es clock, W.heap[w.heap.size + 1]? = some (.map es clock) ∧ Asc es (kvOf (ss.drop (n - i)) (n - i)))
    (fun i c W => False)
    (fun i X Y hi hm => by
      obtain ⟨h1, h2, h3, es, ck, h4, h5⟩ := hi
      exact ⟨Below.moves h1 hm (Nat.le_refl _) (fun k hk => by omega), hm.cells h2 (by omega), hm.cells h3 (by omega), es, ck, hm.dataObj h4 (by omega), h5⟩)
    (fun i c X Y hi hm => hi)
    ⟨hb, d0, d2, #[], 0, d1, by rw [Nat.sub_zero, ← Hl.out, List.drop_length]; rfl⟩ ?assign ?body ?done ?stop
  case assign =>
    intro l i W K hK
    gi_wp2
    exact hK
  case body =>
    rintro l i W hi ⟨hbW, e0, e2, es, ck, e1, hA⟩ hsW
    have e3 : W.cell? ⟨w.heap.size + 1 + 1, 0, none⟩ = some (.map (some (w.heap.size + 1))) := by simp [World.cell?, e2]
    have hlt : w.heap.size < W.heap.size := by omega
    have hi' : n - 1 - i < ss.length := by rw [Hl.out]; omega
    have hget : ss.getD (n - 1 - i) [] = ss[n - 1 - i] := by simp [List.getD_eq_getElem?_getD, hi']
    have hstep : updKV (ss.getD (n - 1 - i) []) ((n - 1 - i : Nat) : Int) (kvOf (ss.drop (n - i)) (n - i)) = kvOf (ss.drop (n - (i + 1))) (n - (i + 1)) := by
      rw [hget, show n - (i + 1) = n - 1 - i by omega, kvOf_drop ss (n - 1 - i) hi', show n - 1 - i + 1 = n - i by omega]
    have Hs := Lib.hid hstep
    clear hstep hget
    gi_wp2_with (refine wpListIn_upd_kv (kvs := kvOf (ss.drop (n - i)) (n - i)) (k := ss.getD (n - 1 - i) []) (v := ((n - 1 - i : Nat) : Int)) rfl rfl rfl rfl rfl Tryz.underlying70 Tryz.underlying9 e1 hA ?_; intro es' ck' hA')
    rw [Hs.out] at hA'
    refine ⟨Keeps.putData e1 rfl (by show ¬ (_ = _); omega) (by omega), below_putObj hbW (by omega), (World.putObj_heap_other (by omega)).trans e0, (World.putObj_heap_other (by omega)).trans e2, es', ck', World.putObj_heap_same (by omega), hA'⟩
  case done =>
    rintro D W hD ⟨hbW, e0, e2, es, ck, e1, hA⟩ hK
    have e3 : W.cell? ⟨w.heap.size + 1 + 1, 0, none⟩ = some (.map (some (w.heap.size + 1))) := by simp [World.cell?, e2]
    have e4 : W.cell? ⟨w.heap.size, 0, none⟩ = some (.slice none 0 0) := by simp [World.cell?, e0]
    have e5 : W.frozen? ⟨w.heap.size, 0, none⟩ = false := frozen_blk e0 0
    have e6 : W.cell? ⟨w.heap.size, 1, none⟩ = some (.map none) := by simp [World.cell?, e0]
    have e7 : W.frozen? ⟨w.heap.size, 1, none⟩ = false := frozen_blk e0 1
    go_wp2
    obtain ⟨V, hV⟩ : ∃ V, (W.setCell ⟨w.heap.size, 0, none⟩ (.slice A n c)).setCell ⟨w.heap.size, 1, none⟩ (.map (some (w.heap.size + 1))) = V := ⟨_, rfl⟩
    have hne : w.heap.size ≠ D := by omega
    have hne1 : w.heap.size + 1 ≠ D := by omega
    have hD2 : V.heap[D]? = some (.deferred (some [])) := by
      rw [← hV]; exact (Below.heap_setCell _ _ _ _ (Ne.symm hne)).trans ((Below.heap_setCell _ _ _ _ (Ne.symm hne)).trans hK)
    have hc0 : V.heap[w.heap.size]? = some (.cells #[.slice A n c, .map (some (w.heap.size + 1))] 72 (0, 0)) := by
      rw [← hV]; simp [World.setCell, Array.getElem?_modify, e0]
    have hc1 : V.heap[w.heap.size + 1]? = some (.map es ck) := by
      rw [← hV]; exact (Below.heap_setCell _ _ _ _ (Nat.succ_ne_self _)).trans ((Below.heap_setCell _ _ _ _ (Nat.succ_ne_self _)).trans e1)
    have hbV : Below w.heap.size w V := by rw [← hV]; exact (hbW.setCell (by simp) _).setCell (by simp) _
    rw [hV]
    clear hV
    refine ⟨by simp, .inl ⟨_, _, rfl, run_takeDeferred hD2, ?_⟩⟩
    have f0 := cell_blk ((World.putObj_heap_other (o := .deferred none) hne).trans hc0) 0
    have f1 := cell_blk ((World.putObj_heap_other (o := .deferred none) hne).trans hc0) 1
    rw [Nat.sub_self] at hA
    refine ⟨.agg #[.slice A n c, .map (some (w.heap.size + 1))], by simp [results, Tryz.results45, go_sem, f0, f1], w.heap.size + 1, es, ck, rfl, (World.putObj_heap_other hne1).trans hc1, hA, ?_⟩
    exact below_putObj hbV (by omega)
  case stop =>
    rintro D i c W hD hi hx hK
    exact hx.elim

def namesB (ss : List (List UInt8)) : Bool := decide (1 ≤ ss.length) && decide (ss.length ≤ 32) && decide (ss.Nodup) && ss.all nameB

theorem run_len_map {P : Program} {t K E : TypeId} {r : Nat} {es : Array MapEntry} {ck : Nat} {w : World} (ht : P.underlying t = some (.map K E)) (ty : TypeId) (hb : w.heap[r]? = some (.map es ck)) :
    (Builtin.len_ #[t] ty #[.map (some r)]).run P w = .ok (.int .i64 es.size) w := by
  unfold Builtin.len_
  simp [Sem.run_bind, run_underlying ht, run_getMap hb, Result.andThen, goInt]

set_option maxRecDepth 100000 in
set_option maxHeartbeats 400000 in
theorem prop_areNames (A : Option Addr) (n c : Nat) (ss : List (List UInt8)) (r : Nat) (es : Array MapEntry) (ck : Nat) (w : World) (hn : n ≤ 1000000) (hz : Strs w w.heap.size A n ss)
    (hs : ∀ x ∈ ss, x.length ≤ 1000000) (hr : w.heap[r]? = some (.map es ck)) (ha : Asc es (kvOf ss 0)) :
    Calls Tryz.prog 54 #[.agg #[.slice A n c, .map (some r)]] w fun e w' => e = .returned (.bool (namesB ss)) ∧ Below w.heap.size w w' := by
  have hlen := hz.len
  have hsa := size_asc ha
  have hk := length_kvOf ss 0
  have hc : ∀ W, Below w.heap.size w W → Calls Tryz.prog 97 #[.slice A n c, .func (.func 95) #[] #[]] W fun e w' => e = .returned (.bool (ss.any fun x => !nameB x)) ∧ Below W.heap.size W w' :=
    fun W hW => containsFunc_str A n c ss W (enters_of Tryz.func95 (by kernel_rfl) rfl) ((hz.below hW).more hW.size) hs (fun x V hV hx => areNames1 x V hx) hn
  have Hc := Lib.hid hc
  have Hl := Lib.hid hlen
  have Hs := Lib.hid hsa
  have Hk := Lib.hid hk
  have hrs : r < w.heap.size := (Array.getElem?_eq_some_iff.1 hr).1
  have hm1 : es.size < 9223372036854775808 := by omega
  clear hc hlen hsa hk ha hs hz
  have hln : ∀ o, (Builtin.len_ #[70] 3 #[.map (some r)]).run Tryz.prog (w.alloc o) = .ok (.int .i64 es.size) (w.alloc o) :=
    fun o => run_len_map Tryz.underlying70 _ ((heap_old hrs).trans hr)
  go_enter Tryz.func54, Tryz.ntmps54
  go_wp2_with (go_at_call 97; refine (Hc.out _ (by go_grown)).mono ?_; rintro e w1 ⟨rfl, hb1⟩)
  all_goals go_ret
  all_goals refine ⟨ret_bool ?_, ?_⟩
  all_goals try (first | exact Below.trans (by go_grown) (Below.mono hb1 (by simp)) | go_grown)
  all_goals have hl := Hl.out
  all_goals have hs := Hs.out
  all_goals have hk := Hk.out
  · have h2 : ss.Nodup := hk.2.1 (by omega)
    simp [namesB, h2, show 1 ≤ ss.length by omega, show ss.length ≤ 32 by omega, List.all_eq_not_any_not]
  · have h2 : ¬ ss.Nodup := fun h => by have := hk.2.2 h; omega
    simp [namesB, h2]
  · simp [namesB, show ¬ ss.length ≤ 32 by omega]
  · simp [namesB, show ¬ 1 ≤ ss.length by omega]

end Go.Vir


namespace Go.Vir
open Go Go.Lib

def splitL (c : UInt8) : List UInt8 → List (List UInt8)
  | [] => [[]]
  | x :: t => if x = c then [] :: splitL c t else match splitL c t with
    | [] => [[x]]
    | h :: r => (x :: h) :: r
theorem splitL_ne (c : UInt8) (l : List UInt8) : splitL c l ≠ [] := by
  cases l with
  | nil => simp [splitL]
  | cons x t =>
    unfold splitL
    split
    · simp
    · split <;> simp
theorem splitL_miss (c : UInt8) : ∀ l : List UInt8, c ∉ l → splitL c l = [l]
  | [], _ => rfl
  | x :: t, h => by
    simp only [List.mem_cons, not_or] at h
    rw [splitL, if_neg (fun e => h.1 e.symm), splitL_miss c t h.2]
theorem splitL_app (c : UInt8) : ∀ (a b : List UInt8), c ∉ a → splitL c (a ++ c :: b) = a :: splitL c b
  | [], b, _ => by simp [splitL]
  | x :: t, b, h => by
    simp only [List.mem_cons, not_or] at h
    rw [List.cons_append, splitL, if_neg (fun e => h.1 e.symm), splitL_app c t b h.2]
theorem index_one (c : UInt8) : ∀ l : List UInt8, (index l [c] = -1 ∧ c ∉ l) ∨ ∃ i : Nat, index l [c] = i ∧ i < l.length ∧ c ∉ l.take i ∧ l = l.take i ++ c :: l.drop (i + 1)
  | [] => .inl ⟨rfl, by simp⟩
  | x :: t => by
    unfold index
    by_cases hx : c = x
    · subst hx
      exact .inr ⟨0, by simp, by simp, by simp, by rfl⟩
    · have h0 : ([c] : List UInt8).isPrefixOf (x :: t) = false := by
        show (c == x && _) = false
        rw [beq_eq_false_iff_ne.2 hx]; rfl
      rw [h0]
      simp only [Bool.false_eq_true, if_false]
      rcases index_one c t with ⟨h1, h2⟩ | ⟨i, h1, h2, h3, h4⟩
      · exact .inl ⟨by simp [h1], by simp [hx, h2]⟩
      · refine .inr ⟨i + 1, ?_, by simpa using h2, by simp [hx, h3], ?_⟩
        · rw [h1]
          have : ((i : Int) == -1) = false := by rw [beq_eq_false_iff_ne]; omega
          rw [this]; simp
        · simp only [List.take_succ_cons, List.drop_succ_cons, List.cons_append]
          rw [← h4]
theorem splitK_L (c : UInt8) : ∀ (n : Nat) (l : List UInt8), l.length ≤ n → splitK [c] 0 (count l [c]) l = splitL c l ∧ count l [c] + 1 = (splitL c l).length
  | 0, l, h => by
    obtain rfl : l = [] := List.eq_nil_of_length_eq_zero (by omega)
    exact ⟨rfl, rfl⟩
  | n + 1, l, h => by
    rcases index_one c l with ⟨h1, h2⟩ | ⟨i, h1, h2, h3, h4⟩
    · rw [count_miss h1, splitL_miss c l h2]
      exact ⟨rfl, rfl⟩
    · rw [count_hit (by simp) h1, Nat.add_comm 1, splitK, h1]
      have : ((i : Int) == -1) = false := by rw [beq_eq_false_iff_ne]; omega
      rw [this]
      simp only [Bool.false_eq_true, if_false, Int.toNat_natCast, Nat.add_zero, List.length_cons, List.length_nil, Nat.zero_add]
      obtain ⟨a1, a2⟩ := splitK_L c n (l.drop (i + 1)) (by simp; omega)
      have h5 := splitL_app c (l.take i) (l.drop (i + 1)) h3
      rw [← h4] at h5
      rw [a1, h5]
      exact ⟨rfl, by simp [a2]⟩
theorem splitL_mem (c : UInt8) : ∀ (l x : List UInt8), x ∈ splitL c l → x.length ≤ l.length ∧ c ∉ x ∧ ∀ b ∈ x, b ∈ l
  | [], x, h => by simp [splitL] at h; subst h; simp
  | y :: t, x, h => by
    unfold splitL at h
    split at h
    · rename_i hy
      simp only [List.mem_cons] at h
      rcases h with rfl | h
      · simp
      · obtain ⟨h1, h2, h3⟩ := splitL_mem c t x h
        exact ⟨by simp; omega, h2, fun b hb => List.mem_cons_of_mem _ (h3 b hb)⟩
    · rename_i hy
      split at h
      · rename_i h0; exact absurd h0 (splitL_ne c t)
      · rename_i hd r h0
        simp only [List.mem_cons] at h
        rcases h with rfl | h
        · obtain ⟨h1, h2, h3⟩ := splitL_mem c t hd (by rw [h0]; simp)
          refine ⟨by simp; omega, by simp only [List.mem_cons, not_or]; exact ⟨fun e => hy e.symm, h2⟩, fun b hb => ?_⟩
          simp only [List.mem_cons] at hb ⊢
          rcases hb with rfl | hb
          · exact .inl rfl
          · exact .inr (h3 b hb)
        · obtain ⟨h1, h2, h3⟩ := splitL_mem c t x (by rw [h0]; simp [h])
          exact ⟨by simp; omega, h2, fun b hb => List.mem_cons_of_mem _ (h3 b hb)⟩
theorem splitL_length (c : UInt8) : ∀ l : List UInt8, (splitL c l).length ≤ l.length + 1
  | [] => by simp [splitL]
  | y :: t => by
    have := splitL_length c t
    unfold splitL
    split
    · simp; omega
    · split
      · simp
      · rename_i hd r h0
        rw [h0] at this
        simp at this ⊢; omega

end Go.Vir


namespace Go.Vir
open Go Go.RowKit Go.Proofs Go.Shelf

theorem split_by (c : UInt8) (x : List UInt8) (m : Int) (w : World) (hx : x.length ≤ 1000000) (hm : w.cell? ⟨9, 0, none⟩ = some (.int .i64 m)) :
    Calls Tryz.prog 171 #[.string ⟨x.toArray⟩, .string ⟨#[c]⟩] w fun e w' => ∃ A n, e = .returned (.slice A n n) ∧ Strs w' w'.heap.size A n (splitL c x) ∧ Below w.heap.size w w' := by
  have h := Tryz.strings_Split ⟨x.toArray⟩ ⟨#[c]⟩ m w (by show x.toArray.size < _; simp; omega) hm (Nat.le_refl 1)
  obtain ⟨a1, a2⟩ := splitK_L c _ x (Nat.le_refl _)
  have hd := Lib.splitB_data ⟨#[c]⟩ 0 (Lib.countB ⟨x.toArray⟩ ⟨#[c]⟩) ⟨x.toArray⟩
  have hd2 : (Lib.splitB ⟨#[c]⟩ 0 (Lib.countB ⟨x.toArray⟩ ⟨#[c]⟩) ⟨x.toArray⟩).map (·.data.toList) = splitL c x := hd.trans a1
  have hc : Lib.countB ⟨x.toArray⟩ ⟨#[c]⟩ + 1 = (splitL c x).length := a2
  rw [hc] at h
  refine h.mono ?_
  rintro e w' ⟨rfl, rfl⟩
  refine ⟨_, _, rfl, ⟨rfl, fun _ => ⟨w.heap.size, 0, rfl, by simp, fun j hj => ?_⟩⟩, (Below.refl _ _).alloc (Nat.le_refl _) _⟩
  generalize Lib.splitB ⟨#[c]⟩ 0 (Lib.countB ⟨x.toArray⟩ ⟨#[c]⟩) ⟨x.toArray⟩ = L at *
  have hj' : j < (L.map (·.data.toList)).length := by rw [hd2]; exact hj
  have hg : (splitL c x)[j] = (L.map (·.data.toList))[j] := by simp only [hd2]
  rw [hg]
  simp only [List.length_map] at hj'
  rw [World.cell?, World.alloc_heap_new]
  simp [hj']
end Go.Vir


namespace Go.Vir
open Go Go.RowKit

section
variable {P : Program} {ops : Array Oper} {md : Region.Mode} {w : World} {l n : Nat}

theorem callsIn_round {f : FuncId} {args : Array Value} {w : World} {R : Ending → World → Prop} (h : Calls P f args w R) : CallsIn (Fence.wide.inRound l) n P f args w R :=
  callsIn_wide.2 h

def noDefer (ops : Array Oper) : Bool := ops.all fun o => match o.op with | .defer _ => false | _ => true
theorem noDefer_spec (h : noDefer ops = true) {i : Nat} {o : Oper} (ho : ops[i]? = some o) : ∀ c, o.op ≠ .defer c := by
  intro c hc
  have := Array.all_eq_true'.1 h o (Array.mem_of_getElem? ho)
  simp [hc] at this

theorem wpAnyIn_of_seq {F : Fence} {Q' : Exit → Act → World → Prop} : ∀ (ol : List Oper) (k : Nat) (listed : Array Bool) (a : Act) (w : World), (∀ j, ol[j]? = ops[k + j]?) →
    Region.seqB md ops ol.length k listed = true → wpListIn F n P ops Q' ol a w → wpAnyIn F n P md ops Q' ol.length listed a w
  | [], _, _, _, _, _, hB, h => ⟨by simpa [Region.seqB] using hB, h⟩
  | o :: ol, k, listed, a, w, hl, hB, h => by
    have h0 : ops[k]? = some o := by simpa using (hl 0).symm
    simp only [List.length_cons, Region.seqB, Bool.and_eq_true, decide_eq_true_eq] at hB
    refine ⟨fun h1 => (by rw [hB.1] at h1; cases h1), fun i hi => ?_⟩
    rw [hB.1] at hi
    have hik : i = k := by simpa using hi
    subst hik
    have hw : wpOpIn F n P ops Q' i (wpListIn F n P ops Q' ol) a w := by unfold wpOpIn; simp only [h0]; exact h
    exact wpOpIn_mono (fun a' w' h' => wpAnyIn_of_seq ol (i + 1) _ a' w' (fun j => by have := hl (j + 1); simpa [Nat.add_assoc, Nat.add_comm 1 j] using this) hB.2 h') hw

end
end Go.Vir


namespace Go.Vir
open Go Go.RowKit

def noWay : Exit → Act → World → Prop := fun _ _ _ => False

section
variable {P : Program} {ops : Array Oper} {md : Region.Mode} {l n : Nat} {S : World → Prop}

theorem wpOpIn_noWay {F : Fence} {i : Nat} {K : Act → World → Prop} {Q : Exit → Act → World → Prop} {a : Act} {w : World} (h : wpOpIn F n P ops noWay i K a w) : wpOpIn F n P ops Q i K a w := by
  unfold wpOpIn at *
  split
  · rename_i ho; simpa [ho] using h
  · rename_i o ho
    simp only [ho] at h
    split
    · rename_i hw
      simp only [hw, if_true] at h
      unfold Oper.wpIn at *
      refine ⟨h.1, ?_⟩
      have h := h.2
      generalize (o.semAt F.round a.eval).run P w = r at *
      cases r with
      | ok x w' =>
        cases x <;> simp only [Oper.uponIn] at h ⊢ <;> first
          | exact h
          | exact ⟨h.1, CallsIn.mono h.2 (fun e w'' he => by cases e <;> first | exact he | exact he.elim | (obtain ⟨_, _, h3⟩ := he; exact h3.elim))⟩
          | exact ⟨h.1, RowsIn.mono h.2 (fun _ _ he => he)⟩
          | exact ⟨h.1, RoundIn.mono h.2 (fun e w'' he => by cases e <;> first | exact he | exact he.elim | (obtain ⟨_, _, h3⟩ := he; exact h3.elim))⟩
      | halt x w' => cases x <;> simp only [Oper.uponIn] at h ⊢ <;> exact h.elim
    · rename_i hw; simp only [hw] at h; exact h

theorem yieldsIf_wpOpIn {i : Nat} {o : Oper} {v : Value} {a : Act} (hd : noDefer ops = true) (hi : ops[i]? = some o) (hy : YieldsIf P ops S o v a)
    {K : Act → World → Prop} {w : World} {Q : Exit → Act → World → Prop} (hS : S w) (h : K (a.put o.dst v) w) : wpOpIn (Fence.wide.inRound l) n P ops Q i K a w := by
  unfold wpOpIn
  simp only [hi]
  rcases hy with ⟨hw, hv⟩ | ⟨hw, rfl⟩
  · simp only [hw, if_true]
    refine ⟨fun _ _ => trivial, ?_⟩
    rw [Oper.semAt_plain _ _ _ (noDefer_spec hd hi), hv w hS]
    exact h
  · simp only [hw, Bool.false_eq_true, if_false]; exact ⟨fun _ _ => trivial, h⟩

theorem wpOpIn_putH {j : Nat} {oi oj : Oper} {v : Value} (hd : noDefer ops = true) (hj : ops[j]? = some oj) (hap : oi.apart ops oj = true)
    (hsi : ∀ cs b, oi.op ≠ .select cs b) (hsj : ∀ cs b, oj.op ≠ .select cs b) {K : Act → World → Prop} {a : Act} {w : World}
    (hy : YieldsIf P ops S oi v a) (h : wpOpIn (Fence.wide.inRound l) n P ops noWay j K (a.put oi.dst v) w) :
    wpOpIn (Fence.wide.inRound l) n P ops noWay j (fun a' w' => YieldsIf P ops S oi v a' ∧ K (a'.put oi.dst v) w') a w := by
  obtain ⟨h1, h2, h3⟩ := Oper.apart_spec hap
  have keep : ∀ (a : Act), YieldsIf P ops S oi v a → ∀ u, YieldsIf P ops S oi v (a.put oj.dst u) := fun a hy u =>
    hy.of_same (execOp_put oi hsi a oj.dst u h3) (wanted_put oi a oj.dst u h3)
  have keepD : ∀ d, YieldsIf P ops S oi v { a with defers := d :: a.defers } := fun d => hy.of_same rfl rfl
  have hdj := noDefer_spec hd hj
  unfold wpOpIn at *
  simp only [hj] at h ⊢
  rw [wanted_put oj a oi.dst v h1] at h
  split
  · rename_i hw
    simp only [hw, if_true] at h
    unfold Oper.wpIn at *
    refine ⟨fun _ _ => trivial, ?_⟩
    have h := h.2
    rw [Oper.semAt_plain _ _ _ hdj, execOp_put oj hsj a oi.dst v h1] at h
    rw [Oper.semAt_plain _ _ _ hdj]
    generalize (execOp a.eval oj).run P w = r at *
    cases r with
    | ok x w' =>
      cases x <;> simp only [Oper.uponIn] at h ⊢
      case value u => exact ⟨keep a hy u, by rw [← Act.put_comm a v u h2]; exact h⟩
      case skip => exact ⟨keep a hy _, by rw [← Act.put_comm a v undef h2]; exact h⟩
      case defer d =>
        refine ⟨keep _ (keepD d) _, ?_⟩
        rw [← Act.put_comm _ v undef h2, ← Act.put_defers]
        exact h
      case enter f args =>
        refine ⟨h.1, CallsIn.mono h.2 fun e w'' he => ?_⟩
        cases e with
        | returned u => exact ⟨keep a hy u, by rw [← Act.put_comm a v u h2]; exact he⟩
        | panicked c => exact he
        | outgrown => exact he
      case row row args => exact ⟨h.1, RowsIn.mono h.2 fun u w'' he => ⟨keep a hy u, by rw [← Act.put_comm a v u h2]; exact he⟩⟩
      case round l f tmps assign body =>
        refine ⟨h.1, RoundIn.mono h.2 fun e w'' he => ?_⟩
        cases e with
        | returned u => exact ⟨keep a hy u, by rw [← Act.put_comm a v u h2]; exact he⟩
        | panicked c => exact he
        | outgrown => exact he
    | halt x w' =>
      cases x <;> simp only [Oper.uponIn] at h ⊢
      all_goals exact h
  · rename_i hw
    simp only [hw] at h
    exact ⟨fun _ _ => trivial, keep a hy _, by rw [← Act.put_comm a v undef h2]; exact h.2⟩

def wpLH (P : Program) (md : Region.Mode) (ops : Array Oper) (S : World → Prop) (l n m : Nat) (L : Array Bool → Act → World → Prop) : Nat → Array Bool → Act → World → Prop
  | 0, listed, a, w => L listed a w
  | f + 1, listed, a, w => Region.ready md ops listed ≠ [] ∧ ∀ i ∈ Region.ready md ops listed, i < m ∧
      wpOpIn (Fence.wide.inRound l) n P ops noWay i (fun a' w' => S w' ∧ wpLH P md ops S l n m L f (listed.setIfInBounds i true) a' w') a w

theorem wpAnyIn_of_LH {m g : Nat} {L : Array Bool → Act → World → Prop} {Q' : Exit → Act → World → Prop} (hL : ∀ listed a w, L listed a w → wpAnyIn (Fence.wide.inRound l) n P md ops Q' g listed a w) :
    ∀ (f : Nat) (listed : Array Bool) (a : Act) (w : World), wpLH P md ops S l n m L f listed a w → wpAnyIn (Fence.wide.inRound l) n P md ops Q' (f + g) listed a w
  | 0, listed, a, w, h => by rw [Nat.zero_add]; exact hL _ _ _ h
  | f + 1, listed, a, w, h => by
    rw [show f + 1 + g = (f + g) + 1 by omega]
    exact ⟨fun h0 => absurd h0 h.1, fun i hi => wpOpIn_noWay (wpOpIn_mono (fun a' w' h' => wpAnyIn_of_LH hL f _ a' w' h'.2) (h.2 i hi).2)⟩

theorem wpLH_first {m i : Nat} {oi : Oper} {v : Value} {L : Array Bool → Act → World → Prop} (hd : noDefer ops = true) (hi : ops[i]? = some oi) (hsel : ∀ (j : Nat) (o : Oper) cs b, ops[j]? = some o → o.op ≠ .select cs b)
    (hs : Region.sinkB md ops m = true) (hc : Region.chainB md ops m = true) (hm : m < ops.size) (him : i < m) (hdone : ∀ listed a w, L listed a w → ∀ j ∈ Region.ready md ops listed, m ≤ j) :
    ∀ (f : Nat) (listed : Array Bool) (a : Act) (w : World), HeadInv md ops m listed →
      (∀ j oj, ops[j]? = some oj → j ≠ i → listed.getD j true = false → (∀ e ∈ oj.after, Region.binds md e = true → e.on ≠ i) → oi.apart ops oj = true) →
      i ∈ Region.ready md ops listed → YieldsIf P ops S oi v a → S w →
      wpLH P md ops S l n m L f (listed.setIfInBounds i true) (a.put oi.dst v) w → wpLH P md ops S l n m L (f + 1) listed a w := by
  intro f
  induction f with
  | zero =>
    intro listed a w inv _ hr hy hS H
    have hun := (mem_ready.1 hr).1
    refine ⟨fun h => (by rw [h] at hr; cases hr), fun j hj => ?_⟩
    have hjm : j < m := by
      rcases Nat.lt_or_ge j m with h | h
      · exact h
      · exact absurd hj (tail_waits hs hc hm inv _ i rfl him hun j h)
    refine ⟨hjm, ?_⟩
    by_cases hji : j = i
    · subst hji; exact yieldsIf_wpOpIn hd hi hy hS ⟨hS, H⟩
    · have := hdone _ _ _ H j (ready_mono hj hji)
      omega
  | succ f ih =>
    intro listed a w inv hfree hr hy hS H
    have hun := (mem_ready.1 hr).1
    refine ⟨fun h => (by rw [h] at hr; cases hr), fun j hj => ?_⟩
    have hjm : j < m := by
      rcases Nat.lt_or_ge j m with h | h
      · exact h
      · exact absurd hj (tail_waits hs hc hm inv _ i rfl him hun j h)
    refine ⟨hjm, ?_⟩
    by_cases hji : j = i
    · subst hji; exact yieldsIf_wpOpIn hd hi hy hS ⟨hS, H⟩
    · have h1 := (H.2 j (ready_mono hj hji)).2
      obtain ⟨hjun, oj, hoj, hall⟩ := mem_ready.1 hj
      have hnot : ∀ e ∈ oj.after, Region.binds md e = true → e.on ≠ i := fun e he hb heq => by
        have h1 := hall e he hb
        rw [heq, getD_both hun] at h1
        cases h1
      have h2 := wpOpIn_putH hd hoj (hfree j oj hoj hji hjun hnot) (fun cs b => hsel i oi cs b hi) (fun cs b => hsel j oj cs b hoj) hy h1
      have hfree' : ∀ k ok, ops[k]? = some ok → k ≠ i → (listed.setIfInBounds j true).getD k true = false →
          (∀ e ∈ ok.after, Region.binds md e = true → e.on ≠ i) → oi.apart ops ok = true := fun k ok hk hki hun hno => by
        refine hfree k ok hk hki ?_ hno
        by_cases hjk : j = k
        · subst hjk; exact hjun
        · rw [getD_set_ne true hjk] at hun; exact hun
      refine wpOpIn_mono (fun a' w' h3 => ⟨h3.2.1, ih (listed.setIfInBounds j true) a' w' (inv.set hj hjm) hfree' (ready_mono hr (Ne.symm hji)) h3.1 h3.2.1 ?_⟩) h2
      rw [Array.setIfInBounds_comm _ _ hji]
      exact h3.2.2

def wpTakes (P : Program) (ops : Array Oper) (S : World → Prop) (K : Act → Prop) : List Oper → Act → Prop
  | [], a => K a
  | o :: rest, a => ∃ v, YieldsIf P ops S o v a ∧ wpTakes P ops S K rest (a.put o.dst v)

theorem wpLH_lex {k m g f : Nat} {K : Act → Prop} {L : Array Bool → Act → World → Prop} {w : World} (hd : noDefer ops = true) (hsel : Region.noSelect ops = true) (hs : Region.sinkB md ops m = true) (hc : Region.chainB md ops m = true) (hm : m < ops.size) (hkm : k ≤ m)
    (hdone : ∀ listed a w, L listed a w → ∀ j ∈ Region.ready md ops listed, m ≤ j) (hS : S w)
    (hbase : ∀ listed a, Region.seqB md ops g k listed = true → K a → wpLH P md ops S l n m L f listed a w) :
    ∀ (tl : List Oper) (j : Nat) (listed : Array Bool) (a : Act), (∀ i, i < tl.length → tl[i]? = ops[j + i]?) → j + tl.length = k → HeadInv md ops m listed →
    Region.lexHead md ops g tl.length j listed = true → wpTakes P ops S K tl a → wpLH P md ops S l n m L (tl.length + f) listed a w
  | [], j, listed, a, _, hk, _, hB, h => by
    have : j = k := by simpa using hk
    subst this
    simp only [List.length_nil, Nat.zero_add]
    exact hbase listed a (by simpa [Region.lexHead] using hB) h
  | o :: tl, j, listed, a, hl, hk, inv, hB, h => by
    have h0 : ops[j]? = some o := by simpa using (hl 0 (by simp)).symm
    simp only [List.length_cons, Region.lexHead, Bool.and_eq_true] at hB
    obtain ⟨⟨hr, hf⟩, hB'⟩ := hB
    have hjm : j < m := by simp only [List.length_cons] at hk; omega
    have hr' : j ∈ Region.ready md ops listed := by simpa using hr
    obtain ⟨v, hy, hK⟩ := h
    rw [List.length_cons, show tl.length + 1 + f = (tl.length + f) + 1 by omega]
    exact wpLH_first hd h0 (Region.noSelect_spec hsel) hs hc hm hjm hdone (tl.length + f) listed a w inv (Region.free_spec h0 hf) hr' hy hS
      (wpLH_lex hd hsel hs hc hm hkm hdone hS hbase tl (j + 1) _ _ (fun i hi => by have := hl (i + 1) (by simp; omega); simpa [Nat.add_assoc, Nat.add_comm 1 i] using this) (by simp only [List.length_cons] at hk; omega) (inv.set hr' hjm) hB' hK)

theorem wpIn_held_tail {id : Nat} {Q : Exit → Act → World → Prop} {a : Act} {w : World} {ol : List Oper} {oz : Oper} (k : Nat) (S : World → Prop) (hm : P.follows .mixedOrders = true)
    (hd : noDefer ol.toArray = true) (hsel : Region.noSelect ol.toArray = true) (hz : ol[k]? = some oz) (hn : k + 1 < ol.length) (hs : Region.sinkB .any ol.toArray (k + 1) = true) (hc : Region.chainB .any ol.toArray (k + 1) = true)
    (hB : Region.lexHead .any ol.toArray (ol.toArray.size - k) k 0 (Array.replicate ol.toArray.size false) = true) (hS : S w.drew)
    (h : wpTakes P ol.toArray S (fun a' => Region.wanted oz (yielded ol.toArray a'.tmps) = true ∧ oz.wpIn (Fence.wide.inRound l) n P a' w.drew (fun a2 w2 => S w2 ∧ wpListIn (Fence.wide.inRound l) n P ol.toArray Q (ol.drop (k + 1)) a2 w2) noWay) (ol.take k) a) :
    (Code.region id ol.toArray true).wpIn (Fence.wide.inRound l) n P Q a w := by
  have hn' : k + 1 < ol.toArray.size := by simpa using hn
  have htl : (ol.take k).length = k := by simp; omega
  have hdl : (ol.drop (k + 1)).length = ol.toArray.size - (k + 1) := by simp
  have inv0 : HeadInv .any ol.toArray (k + 1) (Array.replicate ol.toArray.size false) :=
    ⟨by simp, fun j oj _ hl => (by rw [getD_replicate_false] at hl; cases hl), fun t _ ht => getD_in (by simpa using ht) (getD_replicate_false _ _)⟩
  have H := wpLH_lex (P := P) (md := .any) (S := S) (l := l) (n := n) (k := k) (m := k + 1) (g := ol.toArray.size - k) (f := 1) (w := w.drew)
    (L := fun listed a w => Region.seqB .any ol.toArray (ol.toArray.size - (k + 1)) (k + 1) listed = true ∧ wpListIn (Fence.wide.inRound l) n P ol.toArray Q (ol.drop (k + 1)) a w)
    hd hsel hs hc hn' (Nat.le_succ k) (fun listed a w hL => seqB_ready hL.1) hS (fun listed a hB2 hK => by
      rw [show ol.toArray.size - k = (ol.toArray.size - (k + 1)) + 1 by omega] at hB2
      simp only [Region.seqB, Bool.and_eq_true, decide_eq_true_eq] at hB2
      refine ⟨fun h0 => (by rw [h0] at hB2; cases hB2.1), fun i hi => ?_⟩
      rw [hB2.1] at hi
      obtain rfl : i = k := by simpa using hi
      refine ⟨Nat.lt_succ_self _, ?_⟩
      have hoz : ol.toArray[i]? = some oz := by simpa using hz
      unfold wpOpIn
      simp only [hoz, hK.1, if_true]
      exact Oper.wpIn_mono (fun a2 w2 h2 => ⟨h2.1, hB2.2, h2.2⟩) hK.2) (ol.take k) 0 _ a (fun j hj => by
        have hj' : j < k := by rw [htl] at hj; exact hj
        simp [hj']) (by rw [htl]; omega) inv0 (by rw [htl]; exact hB) h
  refine wpIn_region_any hm ?_
  have := wpAnyIn_of_LH (Q' := Q) (l := l) (n := n) (g := ol.toArray.size - (k + 1)) (fun listed a' w' hL => by
    have := wpAnyIn_of_seq (md := .any) (F := Fence.wide.inRound l) (n := n) (Q' := Q) (ol.drop (k + 1)) (k + 1) listed a' w' (fun j => by simp [List.getElem?_drop]) (by rw [hdl]; exact hL.1) hL.2
    rwa [hdl] at this) _ _ _ _ H
  rw [htl, show k + 1 + (ol.toArray.size - (k + 1)) = ol.toArray.size by omega] at this
  exact this
end
end Go.Vir


namespace Go.Vir
open Go Go.RowKit Go.Proofs Go.Shelf
attribute [local go_sem] Oper.semAt_some

theorem str_info : (Tryz.prog.info? 9).map (fun i => (i.zero, i.size, i.bytes)) = some (some (.string ⟨#[]⟩), 1, 16) := by kernel_rfl

end Go.Vir


namespace Go.Vir
open Go Go.RowKit Go.Proofs Go.Extern.Stop Go.Stop Go.Extern

theorem class_as_nil (t : Value) (w : World) :
    Calls Tryz.prog 87 #[.nilIface, t] w fun e w' => e = .returned (.bool false) ∧ w' = w := by
  go_enter Tryz.func87, Tryz.ntmps87
  go_wp2
  go_ret
  exact ⟨rfl, rfl⟩

theorem rlm (z : Sem Value) (f : TypeId → Addr → Nat → Nat → Sem Value) (v : Value) :
    ReflectliteValue.method z f #[v] = (do match ← ReflectliteValue.parts v with | none => z | some (t, a, fl) => f t a fl (fl % 32)) := rfl
theorem rls (v x : Value) : ReflectliteValue.set #[v, x] = (do
    let (some (dst, a, fl), some (src, b, _)) := (← ReflectliteValue.parts v, ← ReflectliteValue.parts x)
      | unsupported (.noEntry "extern/(internal/reflectlite.Value).Set.zeroValue")
    if fl / ReflectliteValue.flagAddr % 2 == 0 then unsupported (.noEntry "extern/(internal/reflectlite.Value).Set.unaddressable")
    let val ← loadVar src b
    if ← Rtype.directlyAssignable dst src then storeVar dst a val
    else if ← Rtype.implements dst src then
      if (← Rtype.kind src) == 20 then
        match val with
        | .nilIface => unsupported (.noEntry "extern/reflectlite: a nil value of one interface type handed on as a value of another")
        | _ => storeVar dst a val
      else storeVar dst a (.iface src val)
    else panicString ("reflectlite.Set: value of type " ++ (← Rtype.spelt src) ++ " is not assignable to type " ++ (← Rtype.spelt dst))
    pure (.tuple #[])) := rfl
theorem cw_methodKind (h : Value) (w : World) : (Go.method 455 233 (.agg #[h]) "Kind").run Tryz.prog w = .ok (260, h) w := by kernel_rfl
theorem cw_methodElem (h : Value) (w : World) : (Go.method 455 233 (.agg #[h]) "Elem").run Tryz.prog w = .ok (274, .agg #[h]) w := by kernel_rfl
theorem cw_methodImplements (h : Value) (w : World) : (Go.method 455 233 (.agg #[h]) "Implements").run Tryz.prog w = .ok (275, .agg #[h]) w := by kernel_rfl
theorem cw_methodAssignableTo (h : Value) (w : World) : (Go.method 455 233 (.agg #[h]) "AssignableTo").run Tryz.prog w = .ok (272, .agg #[h]) w := by kernel_rfl

end Go.Vir


namespace Go.Vir
open Go Go.RowKit Go.Proofs Go.Extern.Stop Go.Stop Go.Extern

theorem frozen_of_block {w W : World} {b o : Nat} (h : W.heap[b]? = w.heap[b]?) : W.frozen? ⟨b, o, none⟩ = w.frozen? ⟨b, o, none⟩ := by
  simp [World.frozen?, h]

end Go.Vir


namespace Go.Vir
open Go

def landed (P : Program) (c : Code) (Q : Exit → Act → World → Prop) : Exit → Act → World → Prop
  | .goto l, a, w => ∃ rest, findLabel c l = some rest ∧ rest.wp P (Exit.noGoto Q) a w
  | e, a, w => Q e a w

section
variable {P : Program} {a : Act} {w : World} {Q : Exit → Act → World → Prop} {c : Code}
@[go_sem] theorem landed_normal : landed P c Q .normal a w = Q .normal a w := rfl
@[go_sem] theorem landed_exit (id : Nat) : landed P c Q (.exit id) a w = Q (.exit id) a w := rfl
@[go_sem] theorem landed_ret : landed P c Q .ret a w = Q .ret a w := rfl
@[go_sem] theorem landed_panic (ch : List PanicEntry) : landed P c Q (.panic ch) a w = Q (.panic ch) a w := rfl

theorem landed_goto {l : Nat} {rest : Code} (hf : findLabel c l = some rest) (h : rest.wp P (Exit.noGoto Q) a w) : landed P c Q (.goto l) a w := ⟨rest, hf, h⟩

theorem wp_scope_once (h : c.wp P (landed P c Q) a w) : (Code.scope c).wp P Q a w := by
  intro b k cs
  obtain ⟨e, a₁, w₁, hq, harr⟩ := h b (.inScope c :: k) cs
  cases e with
  | normal => exact ⟨.normal, a₁, w₁, hq, .head step_scope (Steps.trans harr (.one step_inScope))⟩
  | exit id => exact ⟨.exit id, a₁, w₁, hq, fun k' hk => .head step_scope (harr k' (by simp [exitTo, hk]))⟩
  | goto l =>
    obtain ⟨rest, hf, hr⟩ := hq
    have hg : gotoIn l (.inScope c :: k) = some (.code rest :: .inScope c :: k) := by simp [gotoIn, hf]
    obtain ⟨e₂, a₂, w₂, hq₂, harr₂⟩ := hr b (.inScope c :: k) cs
    have hs : Steps P _ (lone (b.at a₁ (.code rest :: .inScope c :: k)) cs w₁) := .head step_scope (harr _ hg)
    cases e₂ with
    | normal => exact ⟨.normal, a₂, w₂, hq₂, Steps.trans hs (Steps.trans harr₂ (.one step_inScope))⟩
    | exit id => exact ⟨.exit id, a₂, w₂, hq₂, fun k' hk => Steps.trans hs (harr₂ k' (by simp [exitTo, hk]))⟩
    | goto l' => exact hq₂.elim
    | ret => exact ⟨_, a₂, w₂, hq₂, .of_steps hs harr₂⟩
    | panic ch => exact ⟨_, a₂, w₂, hq₂, .of_steps hs harr₂⟩
    | outgrown => exact ⟨_, a₂, w₂, hq₂, .of_steps hs harr₂⟩
  | ret => exact ⟨_, a₁, w₁, hq, .of_steps (.one step_scope) harr⟩
  | panic ch => exact ⟨_, a₁, w₁, hq, .of_steps (.one step_scope) harr⟩
  | outgrown => exact ⟨_, a₁, w₁, hq, .of_steps (.one step_scope) harr⟩
end
end Go.Vir


namespace Go.Vir
open Go Go.RowKit Go.Proofs Go.Extern.Stop Go.Stop Go.Extern

theorem is_typeOf (v : Value) (w : World) : (ReflectliteType.typeOf #[.iface 324 v]).run Tryz.prog w = .ok (.iface 233 (.agg #[.pointer (some ⟨12, 324, none⟩)])) w := by kernel_rfl
def cmpM : Array Value → Sem Value := ReflectliteType.method fun t => do Rtype.noPackHeld "Comparable" t; pure (.bool (← typeInfo t).comparable)
theorem is_comparable (w : World) : (cmpM #[.agg #[.pointer (some ⟨12, 324, none⟩)]]).run Tryz.prog w = .ok (.bool true) w := by kernel_rfl
theorem is_methodComparable (v : Value) (w : World) : (Go.method 455 233 v "Comparable").run Tryz.prog w = .ok (273, v) w := by kernel_rfl
theorem is_comp : (Tryz.prog.info? 324).map (·.comparable) = some true := by kernel_rfl
theorem is_size : (Tryz.prog.info? 343).map (·.size) = some 1 := by kernel_rfl

theorem is_same (a : Addr) (w : World) :
    Calls Tryz.prog 86 #[.iface 324 (.pointer (some a)), .iface 324 (.pointer (some a))] w fun e w' => e = .returned (.bool true) ∧ w' = w := by
  obtain ⟨i, hi, hcmp⟩ := Option.map_eq_some_iff.1 is_comp
  obtain ⟨j, hj, hjs⟩ := Option.map_eq_some_iff.1 is_size
  have h8 := @run_callFunc_extern Tryz.prog 130 _ ReflectliteType.typeOf Tryz.func130 (by kernel_rfl) (by kernel_rfl) (by kernel_rfl) (by kernel_rfl)
  have h32 := @run_callFunc_extern Tryz.prog 273 _ cmpM Tryz.func273 (by kernel_rfl) (by kernel_rfl) (by kernel_rfl) (by kernel_rfl)
  have tT := is_typeOf
  have cT := is_comparable
  have mR := is_methodComparable
  have heq := run_eql_iface_ptr_same (P := Tryz.prog) w a Tryz.underlying67 Tryz.underlying324 hi hcmp hj
  go_enter Tryz.func86, Tryz.ntmps86
  go_wp2
  refine wp_loop_rounds 1 ?_
  rw [rounds_succ]
  go_wp2
  go_ret
  exact ⟨rfl, rfl⟩

end Go.Vir


namespace Go.Vir
open Go Go.RowKit Go.Proofs Go.Shelf

theorem Ints.take {w : World} {B n : Nat} {A : Option Addr} {zs : List Int} (h : Ints w B A n zs) (k : Nat) (hk : k ≤ n) : Ints w B A k (zs.take k) :=
  ⟨by rw [List.length_take, h.len]; omega, fun h0 => by
    obtain ⟨b, o, e, hb, hc⟩ := h.at_ (by omega)
    refine ⟨b, o, e, hb, fun j hj => ?_⟩
    rw [List.length_take] at hj
    rw [hc j (by omega)]
    simp⟩
end Go.Vir


namespace Go.Vir
open Go Go.RowKit Go.Proofs Go.Shelf
attribute [local go_sem] Oper.semAt_some

def strVs (l : List (List UInt8)) : List Value := l.map fun z => .string ⟨z.toArray⟩
theorem slice_own {W : World} {base : Nat} {v : Value} {l : List (List UInt8)} (h : W.ownsRow base 9 1 v l.length (strVs l)) : ∃ A n c, v = .slice A n c ∧ n = l.length ∧ n ≤ c ∧ Strs W W.heap.size A n l := by
  obtain ⟨A, n, c, rfl, hc, hn⟩ : ∃ A n c, v = .slice A n c ∧ n ≤ c ∧ n = l.length := by
    rcases h.2 with ⟨h1, h2⟩ | ⟨g, cap, cur, h1, _, _, hc, _⟩
    · exact ⟨_, _, _, h1, Nat.le_refl _, h2.symm⟩
    · exact ⟨_, _, _, h1, hc, rfl⟩
  rw [← hn] at h
  exact ⟨A, n, c, rfl, hn, hc, Strs.of_own h⟩

end Go.Vir


namespace Go.Vir
open Go Go.RowKit Go.Proofs Go.Shelf
attribute [local go_sem] Oper.semAt_some

structure Byts (w : World) (B : Nat) (A : Option Addr) (n : Nat) (l : List UInt8) : Prop where
  len : l.length = n
  at_ : 0 < n → ∃ b o, A = some ⟨b, o, none⟩ ∧ b < B ∧ ∀ (j : Nat) (h : j < l.length), w.cell? ⟨b, o + j, none⟩ = some (.int .u8 (l[j].toNat : Int))
theorem run_bytes (s : ByteArray) (w : World) : ∃ c W', (convert 9 167 (.string s)).run Tryz.prog w = .ok (.slice (some ⟨w.heap.size, 0, none⟩) s.size c) W' ∧ Byts W' W'.heap.size (some ⟨w.heap.size, 0, none⟩) s.size s.data.toList ∧ Below w.heap.size w W' := by
  have h := run_bytes_of_string (P := Tryz.prog) w 9 167 5 s Tryz.underlying9 Tryz.underlying167 Tryz.underlying5
  refine ⟨_, _, h, ⟨by simp, fun hn => ⟨w.heap.size, 0, rfl, by simp, fun j hj => ?_⟩⟩, ?_⟩
  · have hb := bytesRow_at s (grownCap w s.size 0 5) j (by simpa using hj)
    have hh := World.alloc_heap_new w.drew (.cells (bytesRow s (grownCap w s.size 0 5)) 5 ((bytesRow s (grownCap w s.size 0 5)).size, (bytesRow s (grownCap w s.size 0 5)).size + 1))
    rw [show w.drew.heap.size = w.heap.size from rfl] at hh
    rw [World.cell?]
    simp only [hh, Nat.zero_add]
    rw [hb]
    rfl
  · exact (Below.refl _ w).drew.alloc (Nat.le_refl _) _
end Go.Vir


namespace Go.Vir
open Go Go.RowKit Go.Proofs Go.Shelf
attribute [local go_sem] Oper.semAt_some

def itemVs (l : List (Int × Int)) : List Value := l.flatMap fun x => [.int .i64 x.1, .int .i64 x.2]
theorem itemVs_len (l : List (Int × Int)) : (itemVs l).length = l.length * 2 := by
  induction l with
  | nil => rfl
  | cons x t ih => simp only [itemVs, List.flatMap_cons, List.length_append, List.length_cons, List.length_nil] at ih ⊢; omega
theorem itemVs_get : ∀ (l : List (Int × Int)) (j : Nat) (h : j < l.length), (itemVs l)[j * 2]? = some (.int .i64 l[j].1) ∧ (itemVs l)[j * 2 + 1]? = some (.int .i64 l[j].2)
  | x :: t, 0, _ => ⟨rfl, rfl⟩
  | x :: t, j + 1, h => by
    have := itemVs_get t j (by simpa using h)
    rw [show (j + 1) * 2 = j * 2 + 2 by omega]
    exact this
end Go.Vir


namespace Go.Vir
open Go Go.RowKit Go.Proofs Go.Shelf
attribute [local go_sem] Oper.semAt_some

theorem Prs.take {w : World} {B n : Nat} {A : Option Addr} {zs : List (Int × Int)} (h : Prs w B A n zs) (k : Nat) (hk : k ≤ n) : Prs w B A k (zs.take k) :=
  ⟨by rw [List.length_take, h.len]; omega, fun h0 => by
    obtain ⟨b, o, e, hb, hc⟩ := h.at_ (by omega)
    refine ⟨b, o, e, hb, fun j hj => ?_⟩
    rw [List.length_take] at hj
    have := hc j (by omega)
    simpa using this⟩

theorem step_append_mine {P : Program} {ops : Array Oper} {o : Oper} {a : Act} {w : World} {K : Act → World → Prop} {Q : Exit → Act → World → Prop} {E : Prop}
    (hg : o.guard = none) (s x : Operand) (t : TypeId) (hop : o.op = Op.call { callee := Callee.builtin Builtin.append, args := #[s, x], argTypes := #[t, t] })
    (base : Nat) (e : TypeId) (i : TypeInfo) (z : Value) (size bytes : Nat) (h1 : P.underlying t = some (.slice e)) (h2 : P.info? e = some i) (h3 : i.zero = some z) (h4 : i.size = size) (h5 : i.bytes = bytes) (h6 : z.cells.size = size) (h7 : 0 < size)
    (v : Value) (n : Nat) (xs : List Value) (hs : a.eval s = v) (hown : w.ownsRow base e size v n xs)
    (ad : Addr) (m c : Nat) (news : List Value) (hx : a.eval x = .slice (some ad) m c) (hn : news.length = m * size) (hc : ∀ j u, news[j]? = some u → w.cell? (ad.add j) = some u) (h1c : ∀ u ∈ news, u.oneCell' = true)
    (b1 : n + m ≤ maxLen) (b2 : (n + m) * bytes ≤ 140737488355328) (hbase : base ≤ w.heap.size)
    (hK : ∀ v' w', w'.ownsRow base e size v' (n + m) (xs ++ news) → w.grownBy w' v.ownBlock → K (a.put o.dst v') w') :
    if Region.wanted o (yielded ops a.tmps) = true then Oper.wp P o a w K Q else E := by
  have hw : Region.wanted o (yielded ops a.tmps) = true := by simp [Region.wanted, hg]
  rw [if_pos hw]
  obtain ⟨v', w', hrun, r1, r2, _⟩ := run_append_own (P := P) w base t o.type e i z size bytes h1 h2 h3 h4 h5 h6 h7 v n xs hown ad m c news hn hc h1c b1 b2 hbase
  unfold Oper.wp
  simp [execOp, hop, resolve, invoke, builtin, hs, hx, hrun, Result.andThen]
  exact hK v' w' r1 r2

theorem step_append_any {P : Program} {ops : Array Oper} {o : Oper} {a : Act} {w : World} {K : Act → World → Prop} {Q : Exit → Act → World → Prop} {E : Prop}
    (hg : o.guard = none) (s x : Operand) (t : TypeId) (hop : o.op = Op.call { callee := Callee.builtin Builtin.append, args := #[s, x], argTypes := #[t, t] })
    (base : Nat) (e : TypeId) (i : TypeInfo) (z : Value) (size bytes : Nat) (h1 : P.underlying t = some (.slice e)) (h2 : P.info? e = some i) (h3 : i.zero = some z) (h4 : i.size = size) (h5 : i.bytes = bytes) (h6 : z.cells.size = size) (h7 : 0 < size)
    (v : Value) (n : Nat) (xs : List Value) (hs : a.eval s = v) (hown : w.ownsRow base e size v n xs)
    (Ax : Option Addr) (m c : Nat) (news : List Value) (hx : a.eval x = .slice Ax m c) (hnone : Ax = none → m = 0 ∧ c = 0) (hn : news.length = m * size) (hc : ∀ ad, Ax = some ad → ∀ j u, news[j]? = some u → w.cell? (ad.add j) = some u) (h1c : ∀ u ∈ news, u.oneCell' = true)
    (b1 : n + m ≤ maxLen) (b2 : (n + m) * bytes ≤ 140737488355328) (hbase : base ≤ w.heap.size)
    (hK : ∀ v' w', w'.ownsRow base e size v' (n + m) (xs ++ news) → w.grownBy w' v.ownBlock → K (a.put o.dst v') w') :
    if Region.wanted o (yielded ops a.tmps) = true then Oper.wp P o a w K Q else E := by
  cases Ax with
  | some ad => exact step_append_mine hg s x t hop base e i z size bytes h1 h2 h3 h4 h5 h6 h7 v n xs hs hown ad m c news hx hn (hc ad rfl) h1c b1 b2 hbase hK
  | none =>
    obtain ⟨rfl, rfl⟩ := hnone rfl
    obtain rfl : news = [] := List.eq_nil_of_length_eq_zero (by simpa using hn)
    have hw : Region.wanted o (yielded ops a.tmps) = true := by simp [Region.wanted, hg]
    rw [if_pos hw]
    have hrun := run_append_owned_none (P := P) (w := w) base t o.type e i size h1 h2 v n xs hown
    unfold Oper.wp
    simp [execOp, hop, resolve, invoke, builtin, hs, hx, hrun, Result.andThen]
    exact hK v w (by simpa using hown) ⟨rfl, rfl, rfl, Nat.le_refl _, fun _ _ _ => rfl⟩

theorem Prs.cells {W : World} {Bd n : Nat} {A : Option Addr} {xs : List (Int × Int)} (h : Prs W Bd A n xs) : ∀ ad, A = some ad → ∀ (j : Nat) (u : Value), (itemVs xs)[j]? = some u → W.cell? (ad.add j) = some u := by
  intro ad hA j u hj
  have hjl := (List.getElem?_eq_some_iff.1 hj).1
  rw [itemVs_len, h.len] at hjl
  obtain ⟨b, o, e, _, hc⟩ := h.at_ (by omega)
  rw [hA] at e
  obtain rfl := Option.some.inj e
  have hj2 : j / 2 < xs.length := by rw [h.len]; omega
  have h2 := hc (j / 2) hj2
  obtain ⟨g1, g2⟩ := itemVs_get xs (j / 2) hj2
  have hadd : (Addr.add ⟨b, o, none⟩ j) = ⟨b, o + j, none⟩ := by
    unfold Addr.add
    split <;> simp_all
  rw [hadd]
  rcases Nat.mod_two_eq_zero_or_one j with h3 | h3
  · have e1 : j = j / 2 * 2 := by omega
    rw [e1, g1] at hj
    rw [e1, h2.1]; exact hj
  · have e1 : j = j / 2 * 2 + 1 := by omega
    rw [e1, g2] at hj
    rw [e1, show o + (j / 2 * 2 + 1) = o + j / 2 * 2 + 1 by omega, h2.2]; exact hj

end Go.Vir


namespace Go.Vir
open Go Go.RowKit Go.Proofs Go.Shelf
attribute [local go_sem] Oper.semAt_some

theorem text_cut (s : List UInt8) (k : Nat) : (⟨s.toArray⟩ : ByteArray).extract 0 k = ⟨(s.take k).toArray⟩ := by
  apply ByteArray.ext
  simp [ByteArray.data_extract]

end Go.Vir


namespace Go.Vir
open Go Go.RowKit Go.Proofs
attribute [local go_sem] Oper.semAt_some
attribute [local go_sem] run_store_float run_store_complex

theorem text_from (s : List UInt8) (k : Nat) : (⟨s.toArray⟩ : ByteArray).extract k s.length = ⟨(s.drop k).toArray⟩ := by
  apply ByteArray.ext
  simp [ByteArray.data_extract]
  rw [List.take_of_length_le (by simp)]
set_option maxHeartbeats 4000000 in
theorem left_take (rb n : Nat) (E : Value) (s : List UInt8) (w : World) (hb : w.heap[rb]? = some (.cells #[.string ⟨s.toArray⟩, E] 109 (0, 0))) (hn : n ≤ s.length) (_hs : s.length ≤ 1000000) :
    Calls Tryz.prog 148 #[.pointer (some ⟨rb, 0, none⟩), .int .i64 (n : Int)] w fun e w' => e = .returned (.string ⟨(s.take n).toArray⟩) ∧ w' = w.setCell ⟨rb, 0, none⟩ (.string ⟨(s.drop n).toArray⟩) := by
  have e0 := cell_blk hb 0
  have f0 := frozen_blk hb 0
  have h1 := text_cut s n
  have h2 := text_from s n
  clear hb
  go_enter Tryz.func148, Tryz.ntmps148
  go_wp2_with fail
  go_ret
  exact ⟨rfl, rfl⟩
theorem bits_or64 (a c : Nat) (ha : a < 2 ^ 40) (hc : c < 64) : bits .or .i64 ((a : Int) * 64) (c : Int) = ((64 * a + c : Nat) : Int) := by
  show IntKind.i64.wrap ((BitVec.ofInt 64 ((a : Int) * 64) ||| BitVec.ofInt 64 (c : Int)).toNat : Int) = _
  rw [show (a : Int) * 64 = ((64 * a : Nat) : Int) by omega, show BitVec.ofInt 64 ((64 * a : Nat) : Int) = BitVec.ofNat 64 (64 * a) from BitVec.ofInt_natCast _ _, show BitVec.ofInt 64 (c : Int) = BitVec.ofNat 64 c from BitVec.ofInt_natCast _ _,
    BitVec.toNat_or, BitVec.toNat_ofNat, BitVec.toNat_ofNat, Nat.mod_eq_of_lt (by omega), Nat.mod_eq_of_lt (by omega), show 64 * a ||| c = 64 * a + c from (Nat.two_pow_add_eq_or_of_lt (i := 6) hc a).symm]
  exact wraps_i64 _ (by omega) (by omega)
theorem and63_all : ((List.range 256).all fun b => bits .and .i64 ((b : Nat) : Int) 63 == ((b % 64 : Nat) : Int)) = true := by kernel_rfl
theorem bits_and63 (b : Nat) (h : b < 256) : bits .and .i64 (b : Int) 63 = ((b % 64 : Nat) : Int) := by
  have := List.all_eq_true.1 and63_all b (List.mem_range.2 h)
  simpa using this
end Go.Vir


namespace Go.Vir
open Go Go.Lib
def hashL (t : List UInt8) : List UInt8 := t.takeWhile fun b => b != 35
def blankB (b : UInt8) : Bool := ([32, 9, 13] : List UInt8).contains b
def trimL (t : List UInt8) : List UInt8 := (t.reverse.dropWhile blankB).reverse.dropWhile blankB
theorem hash_all : ∀ t : List UInt8, (∀ b ∈ t, b ≠ 35) → hashL t = t
  | [], _ => rfl
  | b :: t, h => by
    have h1 : (b != 35) = true := by simpa using h b (by simp)
    have h2 := hash_all t (fun c hc => h c (List.mem_cons_of_mem _ hc))
    unfold hashL at h2 ⊢
    rw [List.takeWhile_cons, h1, if_pos rfl, h2]
theorem cut_hash (t : List UInt8) : (Lib.cut t [35]).1 = hashL t := by
  have key : ∀ (l r : List UInt8), 35 ∉ l → hashL (l ++ 35 :: r) = l := by
    intro l
    induction l with
    | nil => intro r _; rfl
    | cons b l ih =>
      intro r h
      have h1 : (b != 35) = true := by simp at h ⊢; exact fun e => h.1 e.symm
      have h2 := ih r (fun hm => h (List.mem_cons_of_mem _ hm))
      unfold hashL at h2 ⊢
      rw [List.cons_append, List.takeWhile_cons, h1, if_pos rfl, h2]
  unfold Lib.cut
  rcases index_one 35 t with ⟨h, hn⟩ | ⟨i, h, _, hn, he⟩
  · rw [h, if_neg (by omega)]
    exact (hash_all t (fun b hb e => hn (e ▸ hb))).symm
  · rw [h, if_pos (by omega)]
    show t.take (i : Int).toNat = _
    rw [Int.toNat_natCast]
    conv => rhs; rw [he]
    exact (key _ _ hn).symm
theorem hash_len (t : List UInt8) : (hashL t).length ≤ t.length := (List.takeWhile_sublist _).length_le


theorem trimL_len (t : List UInt8) : (trimL t).length ≤ t.length := by
  unfold trimL
  have h1 := (List.dropWhile_sublist blankB (l := (t.reverse.dropWhile blankB).reverse)).length_le
  have h2 := (List.dropWhile_sublist blankB (l := t.reverse)).length_le
  simp at h1 h2 ⊢
  omega
end Go.Vir


namespace Go.Vir
open Go Go.RowKit Go.Proofs Go.Shelf
attribute [local go_sem] Oper.semAt_some

set_option maxHeartbeats 800000 in
theorem ref_letter (b : UInt8) (w : World) : Calls Tryz.prog 55 #[.int .u8 (b.toNat : Int)] w fun e w' => e = .returned (.bool (letterB b)) ∧ w = w' := by
  have hlet := letterB_iff b
  have h0 : (0 : Int) ≤ (b.toNat : Int) := by omega
  have h1 : (b.toNat : Int) ≤ 255 := by have := b.toNat_lt; omega
  generalize letterB b = V at *
  generalize (b.toNat : Int) = c at *
  have Hlet := Lib.hid hlet
  clear hlet
  go_enter Tryz.func55, Tryz.ntmps55
  go_wp2
  all_goals go_ret
  all_goals refine ⟨ret_bool ?_, rfl⟩
  all_goals (rw [Bool.eq_iff_iff, Hlet.out]; simp; try omega)

theorem valB_drop (k : List UInt8) (ss : List (List UInt8)) (j : Nat) (h : j < ss.length) : valB k (ss.drop j) j = if ss[j] = k then some (j : Int) else valB k (ss.drop (j + 1)) (j + 1) := by
  rw [List.drop_eq_getElem_cons h]
  rfl

set_option maxHeartbeats 800000 in
theorem ref_Value (A : Option Addr) (n c : Nat) (ss : List (List UInt8)) (k : List UInt8) (w : World) (hz : Strs w w.heap.size A n ss) (hn : n ≤ 1000000) :
    Calls Tryz.prog 20 #[.slice A n c, .string ⟨k.toArray⟩] w fun e w' => e = .returned (.tuple #[.int .i64 ((valB k ss 0).getD 0), .bool (valB k ss 0).isSome]) ∧ w = w' := by
  have Hl := Lib.hid hz.len
  go_enter Tryz.func20, Tryz.ntmps20
  go_wp2
  go_loop [6] (fun i => ∃ j : Nat, j ≤ n ∧ i = .int .i64 (j : Int) ∧ valB k ss 0 = valB k (ss.drop j) j) (fun i => n - (RowKit.intOf i).toNat)
  case atStart => exact ⟨0, Nat.zero_le _, rfl, rfl⟩
  case round =>
    obtain ⟨j, hj, rfl, hv⟩ := hrel
    have Hv := Lib.hid hv
    clear hv
    rcases Nat.lt_or_ge j n with hlt | hge
    · obtain ⟨zb, zo, rfl, hzb, hzc⟩ := hz.at_ (by omega)
      have hjl : j < ss.length := by rw [Hl.out]; exact hlt
      have z1 := hzc j hjl
      have Hd := Lib.hid (valB_drop k ss j hjl)
      clear hzc
      generalize ss[j] = t at *
      have hbe := bytes_eq t k
      rcases ht : decide (t = k) with _ | _
      · have htk : ¬ t = k := of_decide_eq_false ht
        have hst : valB k ss 0 = valB k (ss.drop (j + 1)) (j + 1) := by rw [Hv.out, Hd.out, if_neg htk]
        have Hst := Lib.hid hst
        have e1 : (t == k) = false := by rw [beq_eq_false_iff_ne]; exact htk
        clear hst ht
        go_wp2_with fail
        go_round
        case rel => exact ⟨j + 1, by omega, by go_num, Hst.out⟩
        case measure => simp [RowKit.intOf]; omega
      · have htk : t = k := of_decide_eq_true ht
        have hst : valB k ss 0 = some (j : Int) := by rw [Hv.out, Hd.out, if_pos htk]
        have Hst := Lib.hid hst
        have e1 : (t == k) = true := by rw [beq_iff_eq]; exact htk
        clear hst ht hbe
        go_wp2_with fail
        go_ret2
        exact ⟨by rw [Hst.out]; rfl, rfl⟩
    · have hst : valB k ss 0 = none := by rw [Hv.out, List.drop_eq_nil_of_le (by rw [Hl.out]; exact hge)]; rfl
      have Hst := Lib.hid hst
      clear hst
      go_wp2_with fail
      go_ret2
      exact ⟨by rw [Hst.out]; rfl, rfl⟩
end Go.Vir


namespace Go.Vir
open Go Go.RowKit Go.Proofs Go.Shelf
attribute [local go_sem] Oper.semAt_some

theorem take_all_snoc {α : Type} (p : α → Bool) (l : List α) (j : Nat) (h : j < l.length) (ha : (l.take j).all p = true) (hp : p l[j] = true) : (l.take (j + 1)).all p = true := by
  rw [List.take_succ_eq_append_getElem h, List.all_append, ha]; simp [hp]
theorem all_bad {α : Type} (p : α → Bool) (l : List α) (j : Nat) (h : j < l.length) (hp : p l[j] = false) : l.all p = false := by
  rw [List.all_eq_false]
  exact ⟨l[j], List.getElem_mem h, by rw [hp]; simp⟩
theorem nodup_snoc {l : List (List UInt8)} {j : Nat} (h : j < l.length) (hn : (l.take j).Nodup) (hm : l[j] ∉ l.take j) : (l.take (j + 1)).Nodup := by
  rw [List.take_succ_eq_append_getElem h, List.nodup_append]
  refine ⟨hn, by simp, ?_⟩
  intro a ha b hb
  have : b = l[j] := by simpa using hb
  subst this
  rintro rfl
  exact hm ha
theorem not_nodup {l : List (List UInt8)} {j : Nat} (h : j < l.length) (hm : l[j] ∈ l.take j) : ¬ l.Nodup := by
  intro hn
  rw [← List.take_append_drop j l, List.nodup_append] at hn
  refine hn.2.2 _ hm _ ?_ rfl
  rw [List.mem_iff_getElem]
  exact ⟨0, by simp; omega, by simp⟩

theorem byte_at (t : List UInt8) (j : Nat) (h : j < (⟨t.toArray⟩ : ByteArray).size) (h2 : j < t.length) : (⟨t.toArray⟩ : ByteArray)[j]'h = t[j] := rfl

set_option maxRecDepth 100000 in
set_option maxHeartbeats 1600000 in
theorem ref_Names (A : Option Addr) (n c : Nat) (ss : List (List UInt8)) (w : World) (hn : n ≤ 1000000) (hnc : n ≤ c) (hz : Strs w w.heap.size A n ss) (hs : ∀ x ∈ ss, x.length ≤ 1000000) :
    Calls Tryz.prog 23 #[.slice A n c] w fun e w' => e = .returned (.bool (namesB ss)) ∧ Below w.heap.size w w' := by
  have hl := hz.len
  have hb1 : ∀ k (h : k < ss.length), nameB ss[k] = false → namesB ss = false := fun k h hb => by
    unfold namesB; rw [all_bad nameB ss k h hb]; simp
  have hb2 : ∀ k (h : k < ss.length), ss[k] ∈ ss.take k → namesB ss = false := fun k h hb => by
    unfold namesB; rw [decide_eq_false (not_nodup h hb)]; simp
  have hgo : ss.all nameB = true → ss.Nodup → namesB ss = (decide (1 ≤ n) && decide (n ≤ 32)) := fun h1 h2 => by
    unfold namesB; rw [h1, decide_eq_true h2, hl]; simp
  have Hl := Lib.hid hl
  have Hb1 := Lib.hid hb1
  have Hb2 := Lib.hid hb2
  have Hgo := Lib.hid hgo
  have Hs := Lib.hid hs
  clear hl hb1 hb2 hgo hs
  generalize namesB ss = V at *
  go_enter Tryz.func23, Tryz.ntmps23
  go_wp2
  go_loopw [3] (fun i wr => ∃ k : Nat, k ≤ n ∧ i = .int .i64 (k : Int) ∧ (ss.take k).all nameB = true ∧ (ss.take k).Nodup ∧ Below w.heap.size w wr) (fun i _ => n - (RowKit.intOf i).toNat)
  case atStart => exact ⟨0, Nat.zero_le _, rfl, rfl, by simp, Below.refl _ _⟩
  case round =>
    obtain ⟨k, hk, rfl, hall, hnd, hbr⟩ := hrel
    have Hall := Lib.hid hall
    have Hnd := Lib.hid hnd
    clear hall hnd
    generalize wr = wo at *
    rcases Nat.lt_or_ge k n with hlt | hge
    · obtain ⟨zb, zo, rfl, hzb, hzc⟩ := hz.at_ (by omega)
      have hkl : k < ss.length := by rw [Hl.out]; exact hlt
      have z0 := hzc k hkl
      have z1 := (cellOf hbr hzb).trans z0
      have Hmem := Lib.hid (Hs.out _ (List.getElem_mem hkl))
      have hst : nameB ss[k] = true → (ss.take (k + 1)).all nameB = true := take_all_snoc nameB ss k hkl Hall.out
      have hsn : ss[k] ∉ ss.take k → (ss.take (k + 1)).Nodup := nodup_snoc hkl Hnd.out
      have hv1 := Hb1.out k hkl
      have hv2 := Hb2.out k hkl
      have hval := valB_isSome ss[k] (ss.take k) 0
      have hzt : ∀ W, Below w.heap.size w W → Strs W W.heap.size (some ⟨zb, zo, none⟩) k (ss.take k) := fun W hW => by
        refine ⟨by rw [List.length_take]; omega, fun _ => ⟨zb, zo, rfl, by have := hW.size; omega, fun j hj => ?_⟩⟩
        rw [List.getElem_take]
        exact (cellOf hW hzb).trans (hzc j (by rw [List.length_take] at hj; omega))
      have hvc := fun t W (hW : Below w.heap.size w W) => ref_Value (some ⟨zb, zo, none⟩) k c (ss.take k) t W (hzt W hW) (by omega)
      have Hst := Lib.hid hst
      have Hsn := Lib.hid hsn
      have Hv1 := Lib.hid hv1
      have Hv2 := Lib.hid hv2
      have Hval := Lib.hid hval
      have Hvc := Lib.hid hvc
      clear hzc z0 hst hsn hv1 hv2 hval hzt hvc
      generalize ss[k] = t at *
      have htl : t.length ≤ 1000000 := Hmem.out
      go_wp2_with fail
      go_loopw [4] (fun i w9 => ∃ j : Nat, j ≤ t.length ∧ i = .int .i64 (j : Int) ∧ (t.take j).all letterB = true ∧ w9 = wo) (fun i _ => t.length - (RowKit.intOf i).toNat)
      case atStart => exact ⟨0, Nat.zero_le _, rfl, rfl, rfl⟩
      case round =>
        obtain ⟨j, hj, rfl, hla, rfl⟩ := hrel
        have Hla := Lib.hid hla
        clear hla
        rcases Nat.lt_or_ge j t.length with hlj | hgj
        · have hnl := take_all_snoc letterB t j hlj Hla.out
          have hbad : letterB t[j] = false → nameB t = false := fun h => by unfold nameB; rw [all_bad letterB t j hlj h]; rfl
          have Hnl := Lib.hid hnl
          have Hbad := Lib.hid hbad
          have hlc := ref_letter t[j]
          have Hlc := Lib.hid hlc
          clear hnl hbad hlc
          go_wp2_with fail
          simp only [byte_at t j _ hlj]
          refine (Hlc.out _).mono ?_
          rintro e w10 ⟨rfl, rfl⟩
          rcases hlb : letterB t[j] with _ | _
          · have hv := Hv1.out (Hbad.out hlb)
            have Hv := Lib.hid hv
            clear hv hlb
            go_wp2_with fail
            go_ret
            exact ⟨ret_bool Hv.out.symm, hbr⟩
          · have hx := Hnl.out hlb
            have Hx := Lib.hid hx
            clear hx hlb
            go_wp2_with fail
            go_roundw
            case rel => exact ⟨j + 1, by omega, by go_num, Hx.out, trivial⟩
            case measure => simp [RowKit.intOf]; omega
        · have hlt2 : t.all letterB = true := by have := Hla.out; rwa [List.take_of_length_le hgj] at this
          have hnm : nameB t = (!t.isEmpty && decide (t.length ≤ 40)) := by unfold nameB; rw [hlt2, Bool.true_and]
          have Hnm := Lib.hid hnm
          clear hlt2 hnm
          have hjl : decide (j < t.length) = false := by simp; omega
          go_upto_region 9 with fail
          have hvc := fun W (hW : Below w.heap.size w W) => Hvc.out t W hW
          generalize hvv : valB t (ss.take k) 0 = vv at hvc
          have hval := Hval.out
          rw [hvv] at hval
          have Hval2 := Lib.hid hval
          have Hvcc := Lib.hid hvc
          clear hvc hval hvv
          go_quiet ((go_at_call 20; exact Calls.quiet_of_same ((Hvcc.out _ (by first | exact hbr | exact hbr.trans (below_drewN _ _ _) | exact (hbr.drew))).mono fun _ _ h => ⟨h.1, h.2.symm⟩)))
          have hbq := hbr.trans (below_drewN w.heap.size wr nq)
          have z2 : (wr.drewN nq).cell? ⟨zb, zo + k, none⟩ = some (.string ⟨t.toArray⟩) := z1
          clear z1
          generalize wr.drewN nq = wq at *
          rcases hvs : vv.isSome with _ | _
          · have hnot : t ∉ ss.take k := by
              have := Hval2.out
              rw [hvs] at this
              exact of_decide_eq_false this.symm
            have hnd2 := Hsn.out hnot
            have Hnd2 := Lib.hid hnd2
            clear hnot hnd2 hvs
            rcases te : t with _ | ⟨t0, tt⟩
            · have hv := Hv1.out (by rw [Hnm.out, te]; rfl)
              have Hv := Lib.hid hv
              subst te
              clear hv
              go_wp2_with fail
              go_ret
              exact ⟨ret_bool Hv.out.symm, hbq⟩
            · have hue : t.isEmpty = false := by rw [te]; rfl
              have hun : ¬ t = [] := by rw [te]; simp
              rw [← te]
              clear te t0 tt
              rcases Nat.lt_or_ge 40 t.length with h40 | h40
              · have hv := Hv1.out (by rw [Hnm.out, hue, decide_eq_false (by omega)]; rfl)
                have Hv := Lib.hid hv
                clear hv
                go_wp2_with fail
                go_ret
                exact ⟨ret_bool Hv.out.symm, hbq⟩
              · have hx := Hst.out (by rw [Hnm.out, hue, decide_eq_true h40]; rfl)
                have Hx := Lib.hid hx
                clear hx
                have h40' : ¬ 40 < t.length := by omega
                go_wp2_with fail
                go_roundw
                case rel => exact ⟨k + 1, by omega, by go_num, Hx.out, Hnd2.out, hbq⟩
                case measure => simp [RowKit.intOf]; omega
          · have hin : t ∈ ss.take k := by
              have := Hval2.out
              rw [hvs] at this
              exact of_decide_eq_true this.symm
            have hv := Hv2.out hin
            have Hv := Lib.hid hv
            clear hv hin hvs
            go_wp2_with fail
            go_ret
            exact ⟨ret_bool Hv.out.symm, hbq⟩
    · have h1 := Hall.out
      have h2 := Hnd.out
      rw [List.take_of_length_le (by rw [Hl.out]; exact hge)] at h1 h2
      have hv := Hgo.out h1 h2
      have Hv := Lib.hid hv
      have hkn : k = n := by omega
      subst hkn
      clear hv h1 h2
      go_wp2_with fail
      all_goals go_ret
      all_goals refine ⟨ret_bool ?_, hbr⟩
      all_goals (rw [Hv.out, Bool.eq_iff_iff]; simp; try omega)
end Go.Vir


namespace Go.Vir
open Go Go.RowKit Go.Proofs Go.Shelf
attribute [local go_sem] Oper.semAt_some

theorem text_seg (s : List UInt8) (i j : Nat) : (⟨s.toArray⟩ : ByteArray).extract i j = ⟨((s.drop i).take (j - i)).toArray⟩ := by
  apply ByteArray.ext
  simp [ByteArray.data_extract]
theorem split_more {c : UInt8} {s : List UInt8} {f k : Nat} (hf : f ≤ k) (hk : k < s.length) (hno : c ∉ (s.drop f).take (k - f)) (hc : s[k] = c) : splitL c (s.drop f) = (s.drop f).take (k - f) :: splitL c (s.drop (k + 1)) := by
  have e : s.drop f = (s.drop f).take (k - f) ++ c :: s.drop (k + 1) := by
    conv => lhs; rw [← List.take_append_drop (k - f) (s.drop f), List.drop_drop, show f + (k - f) = k by omega, List.drop_eq_getElem_cons hk, hc]
  conv => lhs; rw [e]
  exact splitL_app c _ _ hno
theorem split_none {c : UInt8} {s : List UInt8} {f k : Nat} (hf : f ≤ k) (hk : k = s.length) (hno : c ∉ (s.drop f).take (k - f)) : splitL c (s.drop f) = [(s.drop f).take (k - f)] := by
  have e : (s.drop f).take (k - f) = s.drop f := List.take_of_length_le (by simp; omega)
  rw [e] at hno ⊢
  exact splitL_miss c _ hno
theorem seg_miss {c : UInt8} {s : List UInt8} {f k : Nat} (hf : f ≤ k) (hk : k < s.length) (hno : c ∉ (s.drop f).take (k - f)) (hc : s[k] ≠ c) : c ∉ (s.drop f).take (k + 1 - f) := by
  rw [show k + 1 - f = (k - f) + 1 by omega, List.take_succ_eq_append_getElem (by simp; omega), List.mem_append]
  rintro (h | h)
  · exact hno h
  · simp only [List.mem_singleton, List.getElem_drop, show f + (k - f) = k by omega] at h
    exact hc h.symm

set_option maxRecDepth 100000 in
set_option maxHeartbeats 1600000 in
theorem ref_Split (s : List UInt8) (c : UInt8) (w : World) (hs : s.length ≤ 10000000) :
    Calls Tryz.prog 88 #[.string ⟨s.toArray⟩, .int .u8 (c.toNat : Int)] w fun e w' => ∃ A n d, e = .returned (.slice A n d) ∧ n ≤ d ∧ Strs w' w'.heap.size A n (splitL c s) ∧ Below w.heap.size w w' := by
  obtain ⟨i0, hi0, hz0, hz1, hz2⟩ := info_parts str_info
  go_enter Tryz.func88, Tryz.ntmps88
  go_wp2
  go_loopw [5, 6, 7] (fun v0 fv i wr => ∃ (k f : Nat) (v : Value) (L : List (List UInt8)), v = v0 ∧ k ≤ s.length + 1 ∧ i = .int .i64 (k : Int) ∧ fv = .int .i64 (f : Int) ∧ wr.ownsRow w.heap.size 9 1 v L.length (strVs L) ∧ Below w.heap.size w wr ∧ L.length ≤ k ∧
      ((k ≤ s.length ∧ f ≤ k ∧ c ∉ (s.drop f).take (k - f) ∧ splitL c s = L ++ splitL c (s.drop f)) ∨ (k = s.length + 1 ∧ L = splitL c s))) (fun _ _ i _ => s.length + 1 - (RowKit.intOf i).toNat)
  case atStart => exact ⟨0, 0, _, [], rfl, by omega, rfl, rfl, World.ownsRow_nil _ _ _ _, Below.refl _ _, by simp, .inl ⟨by omega, by omega, by simp, by simp⟩⟩
  case round =>
    obtain ⟨k, f, v, L, rfl, hk, rfl, rfl, hown, hbr, hLk, hst⟩ := hrel
    rcases hst with ⟨hks, hfk, hno, hsp⟩ | ⟨hks, hL⟩
    · rcases Nat.lt_or_ge k s.length with hlt | hge
      · rcases hcb : decide (s[k] = c) with _ | _
        · have hne : s[k] ≠ c := of_decide_eq_false hcb
          have hne2 : (((s[k]).toNat : Int) == (c.toNat : Int)) = false := by
            rw [beq_eq_false_iff_ne]; intro h; exact hne (UInt8.toNat.inj (by omega))
          have hno2 := seg_miss hfk hlt hno hne
          have hkb : ((k : Int) == (s.length : Int)) = false := by rw [beq_eq_false_iff_ne]; omega
          have Hno2 := Lib.hid hno2
          have Hsp := Lib.hid hsp
          have hne3 : (((⟨s.toArray⟩ : ByteArray)[k]'hlt).toNat : Int) = (s[k].toNat : Int) := rfl
          clear hcb hne hno hno2 hsp
          go_wp2_with fail
          go_roundw
          case rel => exact ⟨k + 1, f, _, L, rfl, by omega, by go_num, rfl, hown, hbr, by omega, .inl ⟨by omega, by omega, Hno2.out, Hsp.out⟩⟩
          case measure => simp [RowKit.intOf]; omega
        · have hce : s[k] = c := of_decide_eq_true hcb
          have hne2 : (((s[k]).toNat : Int) == (c.toNat : Int)) = true := by rw [hce]; simp
          have hne3 : (((⟨s.toArray⟩ : ByteArray)[k]'hlt).toNat : Int) = (s[k].toNat : Int) := rfl
          have hkb : ((k : Int) == (s.length : Int)) = false := by rw [beq_eq_false_iff_ne]; omega
          have hsp2 : splitL c s = (L ++ [(s.drop f).take (k - f)]) ++ splitL c (s.drop (k + 1)) := by rw [hsp, split_more hfk hlt hno hce]; simp
          have Hsp := Lib.hid hsp2
          clear hcb hce hno hsp hsp2
          have hown1 := hown.alloc (.cells #[.string ((⟨s.toArray⟩ : ByteArray).extract f k)] 9)
          have Hcs := Lib.hid (cell_one_new wr (.string ((⟨s.toArray⟩ : ByteArray).extract f k)) 9)
          have hbrA : Below w.heap.size w (wr.alloc (.cells #[.string ((⟨s.toArray⟩ : ByteArray).extract f k)] 9)) := hbr.alloc hbr.size _
          have Hlt := Lib.hid hown.lt
          have hbs := hbr.size
          clear hown hbr
          go_wp2_with (at_builtin; refine wpList_append_at _ rfl _ _ 22 rfl w.heap.size 9 i0 (.string ⟨#[]⟩) 1 16 Tryz.underlying22 hi0 hz0 hz1 hz2 rfl (by decide) _ _ _ rfl hown1 ⟨wr.heap.size, 0, none⟩ 1 1 [.string ((⟨s.toArray⟩ : ByteArray).extract f k)] rfl rfl Hcs.out (by simp [Value.oneCell']) (by simp only [maxLen]; omega) (by omega) (by simp; omega) ?_; intro v' w5 hown5 hgrow hat)
          have hbr5 : Below w.heap.size w w5 := hbrA.grown hgrow (by simp; omega) (fun g hg => (Hlt.out g hg).1)
          have hown6 : w5.ownsRow w.heap.size 9 1 v' (L ++ [(s.drop f).take (k - f)]).length (strVs (L ++ [(s.drop f).take (k - f)])) := by
            rw [text_seg] at hown5
            simpa [strVs] using hown5
          go_roundw
          case rel => exact ⟨k + 1, k + 1, _, _, rfl, by omega, by go_num, by go_num, hown6, hbr5, by simp; omega, .inl ⟨by omega, by omega, by simp, Hsp.out⟩⟩
          case measure => simp [RowKit.intOf]; omega
      · have hkl : k = s.length := by omega
        have hsp2 : splitL c s = L ++ [(s.drop f).take (s.length - f)] := by rw [hsp, split_none hfk hkl hno, hkl]
        have Hsp := Lib.hid hsp2
        have hke : ((k : Int) == (s.length : Int)) = true := by rw [beq_iff_eq]; omega
        clear hno hsp hsp2
        subst hkl
        have hown1 := hown.alloc (.cells #[.string ((⟨s.toArray⟩ : ByteArray).extract f s.length)] 9)
        have Hcs := Lib.hid (cell_one_new wr (.string ((⟨s.toArray⟩ : ByteArray).extract f s.length)) 9)
        have hbrA : Below w.heap.size w (wr.alloc (.cells #[.string ((⟨s.toArray⟩ : ByteArray).extract f s.length)] 9)) := hbr.alloc hbr.size _
        have Hlt := Lib.hid hown.lt
        have hbs := hbr.size
        clear hown hbr
        go_wp2_with (at_builtin; refine wpList_append_at _ rfl _ _ 22 rfl w.heap.size 9 i0 (.string ⟨#[]⟩) 1 16 Tryz.underlying22 hi0 hz0 hz1 hz2 rfl (by decide) _ _ _ rfl hown1 ⟨wr.heap.size, 0, none⟩ 1 1 [.string ((⟨s.toArray⟩ : ByteArray).extract f s.length)] rfl rfl Hcs.out (by simp [Value.oneCell']) (by simp only [maxLen]; omega) (by omega) (by simp; omega) ?_; intro v' w5 hown5 hgrow hat)
        have hbr5 : Below w.heap.size w w5 := hbrA.grown hgrow (by simp; omega) (fun g hg => (Hlt.out g hg).1)
        have hown6 : w5.ownsRow w.heap.size 9 1 v' (L ++ [(s.drop f).take (s.length - f)]).length (strVs (L ++ [(s.drop f).take (s.length - f)])) := by
          rw [text_seg] at hown5
          simpa [strVs] using hown5
        go_roundw
        case rel => exact ⟨s.length + 1, s.length + 1, _, _, rfl, by omega, by go_num, by go_num, hown6, hbr5, by simp; omega, .inr ⟨rfl, Hsp.out.symm⟩⟩
        case measure => simp [RowKit.intOf]
    · subst hks
      rw [hL] at hown
      obtain ⟨A', n', c', rfl, hn', hnc', hS⟩ := slice_own hown
      have HS := Lib.hid hS
      clear hS hown hL hn'
      go_wp2_with fail
      go_ret
      exact ⟨A', n', c', rfl, hnc', HS.out, hbr⟩
end Go.Vir

