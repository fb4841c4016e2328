/- Joined texts: WkH, Prp, Trp, Utf, Fop, Foq, For, Fos, Fou, Fov, Wdq, Fow, Foy, TrA, TrB. -/
import Derived.Test.YtkkpkcnlocmnhaaGreatDoorJa
import Derived.Deep.Cut
import Derived.Lib.DecodeN
import Derived.Lib.RuneCountTail
import Derived.Lib.Hide
import Derived.BigQuiet
import Derived.Deep.QuietTactic
namespace Go.Vir
open Go Go.RowKit Go.Proofs Go.Shelf
attribute [local go_sem] Oper.semAt_some

set_option maxHeartbeats 400000 in
theorem backward_make (A : Option Addr) (n c : Nat) (w : World) :
    Calls Tryz.prog 154 #[.slice A n c] w fun e w' =>
      e = .returned (.func (.func 170) #[] #[.pointer (some ⟨w.heap.size, 0, none⟩)]) ∧ w.alloc (.cells #[.slice A n c] 86) = w' := by
  go_enter Tryz.func154, Tryz.ntmps154
  go_wp2
  go_ret
  exact ⟨rfl, rfl⟩

set_option maxHeartbeats 400000 in
theorem backward_iter (B0 b : Nat) (A : Option Addr) (n c : Nat) (ss : List (List UInt8)) (W0 : World) (hb : B0 ≤ b) (hsz : b < W0.heap.size) (hn : n ≤ 1000000)
    (c0 : W0.heap[b]? = some (.cells #[.slice A n c] 86 (0, 0))) (hz : Strs W0 B0 A n ss) :
    Iter Tryz.prog 170 #[.pointer (some ⟨b, 0, none⟩)] n (fun i => #[.int .i64 ((n - 1 - i : Nat) : Int), strV (ss.getD (n - 1 - i) [])]) (fun k => k = b) B0 W0 := by
  intro l J Jx W hW hJ hJx hY h0
  have hlen := hz.len
  have hW' := hW.mono (show B0 ≤ W0.heap.size by omega)
  have c1 : W.heap[b]? = some (.cells #[.slice A n c] 86 (0, 0)) := (hW.block _ hsz).trans c0
  have e1 : W.cell? ⟨b, 0, none⟩ = some (.slice A n c) := by simp [World.cell?, c1]
  have hz1 := hz.below hW'
  refine callsIn_wide.2 ?_
  go_enter Tryz.func170, Tryz.ntmps170
  go_wp2
  go_loopw [3] (fun v wr => ∃ k : Nat, k ≤ n ∧ v = .int .i64 ((k : Int) - 1) ∧ J (n - k) wr ∧ wr.heap[b]? = some (.cells #[.slice A n c] 86 (0, 0)) ∧ Strs wr B0 A n ss) (fun v _ => (RowKit.intOf v + 1).toNat)
  case atStart => exact ⟨n, Nat.le_refl _, rfl, by simpa using h0, c1, hz1⟩
  case round =>
    obtain ⟨k, hk, rfl, hJk, d0, dz⟩ := hrel
    have d1 : wr.cell? ⟨b, 0, none⟩ = some (.slice A n c) := by simp [World.cell?, d0]
    rcases Nat.eq_zero_or_pos k with h00 | hpos
    · subst h00
      go_wp2
      go_end0
      exact ⟨⟨_, rfl⟩, .inl (by simpa using hJk)⟩
    · obtain ⟨m, rfl⟩ : ∃ m, k = m + 1 := ⟨k - 1, by omega⟩
      obtain ⟨zb, zo, rfl, hzb, hzc⟩ := dz.at_ (by omega)
      have hzm := hzc m (by omega)
      rw [show (((m + 1 : Nat) : Int) - 1) = (m : Int) by omega]
      have hy := hY (n - (m + 1)) wr (by omega) hJk
      rw [show n - 1 - (n - (m + 1)) = m by omega, show ss.getD m [] = ss[m]'(by omega) by simp [List.getD_eq_getElem?_getD, show m < ss.length by omega]] at hy
      obtain ⟨fn, tmps, assign, body, hy, hR⟩ := hy
      generalize hsv : ss[m] = sv at hzm hy
      have hy' := Lib.hid hy
      clear hy hsv hlen
      have hmn : m < n := by omega
      have hdec : decide ((m : Int) < 0) = false := by simp
      have hdec2 : decide (m < n) = true := by simpa using hmn
      go_upto_region 3 with (fail)
      refine (wpIn_wide (n := 0)).1 ?_
      have hy : (Instr.yield l #[.int .i64 (m : Int), .string ⟨sv.toArray⟩]).run Tryz.prog wr = .ok (.round l fn tmps assign body) wr := hy'
      clear hdec hdec2 hy'
      gi_wp2
      refine ⟨rfl, hR.mono ?_⟩
      rintro e W' (⟨rfl, hJ', hk'⟩ | ⟨rfl, hJx'⟩)
      · have f0 : W'.heap[b]? = some (.cells #[.slice (some ⟨zb, zo, none⟩) n c] 86 (0, 0)) := (hk'.own _ (by omega)).trans d0
        have fz : Strs W' B0 (some ⟨zb, zo, none⟩) n ss := ⟨dz.len, fun _ => ⟨zb, zo, rfl, hzb, fun j hj => (World.cell?_of_block (hk'.low zb hzb)).trans (hzc j hj)⟩⟩
        gi_wp2
        go_wp2
        go_roundw
        case rel =>
          exact ⟨m, by omega, rfl, by rw [show n - m = n - (m + 1) + 1 by omega]; exact hJ', f0, fz⟩
        case measure => simp [RowKit.intOf]
      · gi_wp2
        go_wp2
        refine bodyPost_ret (results_none rfl _ _ _) rfl ?_
        exact ⟨⟨_, rfl⟩, .inr ⟨_, by omega, hJx'⟩⟩

def SaysS (P : Program) (g : Nat) (lb : Array Value) (p : List UInt8 → Bool) (w : World) : Prop :=
  ∀ (x : List UInt8) (W : World), Below w.heap.size w W → x.length ≤ 1000000 → Calls P g (#[strV x] ++ lb) W fun e w' => e = .returned (.bool (p x)) ∧ Below W.heap.size W w'

set_option maxHeartbeats 400000 in
theorem indexFunc_str {g : Nat} {p : List UInt8 → Bool} (A : Option Addr) (n c : Nat) (xs : List (List UInt8)) (w : World)
    (eg : ∀ args w, (callFunc g args).run Tryz.prog w = .ok (.enter g args) w) (hx : Strs w w.heap.size A n xs) (hs : ∀ x ∈ xs, x.length ≤ 1000000)
    (hp : SaysS Tryz.prog g #[] p w) (hn : n ≤ 1000000) :
    Calls Tryz.prog 193 #[.slice A n c, .func (.func g) #[] #[]] w fun e w' => e = .returned (.int .i64 (firstB p xs)) ∧ Below w.heap.size w w' := by
  go_enter Tryz.func193, Tryz.ntmps193
  go_wp2
  have hlen := hx.len
  go_loopw [8] (fun i wr => ∃ k : Nat, k ≤ n ∧ i = .int .i64 k ∧ (∀ (j : Nat) (h : j < k) (h2 : j < xs.length), p xs[j] = false) ∧ Below w.heap.size w wr) (fun i _ => n - (RowKit.intOf i).toNat)
  case atStart => exact ⟨0, Nat.zero_le _, rfl, fun j h => absurd h (by omega), Below.refl _ _⟩
  case round =>
    obtain ⟨k, hk, rfl, hno, hb⟩ := hrel
    rcases Nat.lt_or_ge k n with hlt | hge
    · obtain ⟨zb, zo, rfl, hzb, hzc⟩ := hx.at_ (by omega)
      have z1 := (cellOf hb hzb).trans (hzc k (by omega))
      have hc := hp xs[k] wr hb (hs _ (List.getElem_mem _))
      go_wp2
      refine hc.mono ?_
      rintro e w1 ⟨rfl, hb1⟩
      rcases hpk : p xs[k] with _ | _
      · have hno' : ∀ (j : Nat) (h : j < k + 1) (h2 : j < xs.length), p xs[j] = false := fun j h h2 => by
          rcases Nat.lt_or_ge j k with h3 | h3
          · exact hno j h3 h2
          · obtain rfl : j = k := by omega
            exact hpk
        have hb2 := hb.trans (hb1.mono hb.size)
        clear hno hb hb1 hc hpk
        go_wp2
        go_roundw
        case rel => exact ⟨k + 1, by omega, by go_num, hno', hb2⟩
        case measure => simp [RowKit.intOf]; omega
      · have hf : firstB p xs = k := firstB_hit (by omega) hpk (fun j h => hno j h (by omega))
        have Hf := Lib.hid hf
        clear hf hpk
        go_wp2
        go_ret
        exact ⟨ret_int Hf.out.symm, hb.trans (hb1.mono hb.size)⟩
    · have hf : firstB p xs = -1 := firstB_none (fun j h => hno j (by omega) h)
      have Hf := Lib.hid hf
      clear hf
      go_wp2
      go_ret
      exact ⟨ret_int Hf.out.symm, hb⟩

set_option maxHeartbeats 400000 in
theorem containsFunc_str {g : Nat} {p : List UInt8 → Bool} (A : Option Addr) (n c : Nat) (xs : List (List UInt8)) (w : World)
    (eg : ∀ args w, (callFunc g args).run Tryz.prog w = .ok (.enter g args) w) (hx : Strs w w.heap.size A n xs) (hs : ∀ x ∈ xs, x.length ≤ 1000000)
    (hp : SaysS Tryz.prog g #[] p w) (hn : n ≤ 1000000) :
    Calls Tryz.prog 173 #[.slice A n c, .func (.func g) #[] #[]] w fun e w' => e = .returned (.bool (xs.any p)) ∧ Below w.heap.size w w' := by
  have hc := indexFunc_str A n c xs w eg hx hs hp hn
  rw [← firstB_ge p xs]
  clear eg hx hp
  go_enter Tryz.func173, Tryz.ntmps173
  go_wp2_with (go_at_call 193; refine hc.mono ?_; rintro e w1 ⟨rfl, hb1⟩)
  go_ret
  exact ⟨rfl, hb1⟩

theorem areNames1 (x : List UInt8) (W : World) (hx : x.length ≤ 1000000) :
    Calls Tryz.prog 171 #[strV x] W fun e w' => e = .returned (.bool (!nameB x)) ∧ Below W.heap.size W w' := by
  have hc := prop_isName ⟨x.toArray⟩ W (by show x.toArray.size ≤ _; simpa using hx)
  go_enter Tryz.func171, Tryz.ntmps171
  go_wp2_with (go_at_call 172; refine hc.mono ?_; rintro e w1 ⟨rfl, hb1⟩)
  go_ret
  exact ⟨rfl, hb1⟩

set_option maxHeartbeats 400000 in
theorem prop_of (A : Option Addr) (n c : Nat) (ss : List (List UInt8)) (w : World) (hn : n ≤ 1000000) (hz : Strs w w.heap.size A n ss) :
    Calls Tryz.prog 135 #[.slice A n c] w fun e w' =>
      ∃ r es clock, e = .returned (.agg #[.slice A n c, .map (some r)]) ∧ w'.heap[r]? = some (.map es clock) ∧ Asc es (kvOf ss 0) ∧ Below w.heap.size w w' := by
  have hmm := @run_makeMap Tryz.prog
  have hlen := hz.len
  have Hl := Lib.hid hlen
  clear hlen
  refine (callsIn_wide (n := 0)).1 ?_
  refine callsIn_of_wp_marks Tryz.func135 rfl trivial ?_ rfl
  simp only [Tryz.ntmps135, List.size_toArray, List.length_cons, List.length_nil, Nat.reduceAdd, Nat.reduceSub, Array.replicate_succ, Array.replicate_zero, List.push_toArray, List.append_toArray, List.nil_append, List.cons_append]
  refine wpIn_wide.2 ?_
  go_wp2_with (go_at_call 154; refine (backward_make _ _ _ _).mono ?_; rintro e w1 ⟨rfl, rfl⟩)
  clear hmm
  refine wp_gen ?_
  intro W1 hW1
  have hsz : W1.heap.size = w.heap.size + 4 := by simp [hW1]
  have hb : Below w.heap.size w W1 := by rw [hW1]; go_grown
  have d0 : W1.heap[w.heap.size]? = some (.cells #[.slice none 0 0, .map none] 204 (0, 0)) := (by rw [hW1]; simp (disch := (first | omega | (simp only [World.size_alloc]; done) | (simp only [World.size_alloc]; omega))) only [heap_laws])
  have d1 : W1.heap[w.heap.size + 1]? = some (.map #[] 0) := (by rw [hW1]; simp (disch := (first | omega | (simp only [World.size_alloc]; done) | (simp only [World.size_alloc]; omega))) only [heap_laws])
  have d2 : W1.heap[w.heap.size + 1 + 1]? = some (.cells #[.map (some (w.heap.size + 1))] 202 (0, 0)) := (by rw [hW1]; simp (disch := (first | omega | (simp only [World.size_alloc]; done) | (simp only [World.size_alloc]; omega))) only [heap_laws])
  have d3 : W1.heap[w.heap.size + 1 + 1 + 1]? = some (.cells #[.slice A n c] 86 (0, 0)) := (by rw [hW1]; simp (disch := (first | omega | (simp only [World.size_alloc]; done) | (simp only [World.size_alloc]; omega))) only [heap_laws])
  clear hW1
  refine (wpIn_wide (n := 0)).1 ?_
  refine range_law (a₁ := ?a1) rfl (enters_of Tryz.func170 (by kernel_rfl) rfl) (backward_iter w.heap.size (w.heap.size + 1 + 1 + 1) A n c ss W1 (by omega) (by omega) hn d3 (hz.below hb)) (Below.refl _ _)
    (fun k hk => by omega) (by omega) (fun _ => rfl)
    (fun i W => Below w.heap.size w W ∧ W.heap[w.heap.size]? = some (.cells #[.slice none 0 0, .map none] 204 (0, 0)) ∧ W.heap[w.heap.size + 1 + 1]? = some (.cells #[.map (some (w.heap.size + 1))] 202 (0, 0)) ∧
      ∃ es clock, W.heap[w.heap.size + 1]? = some (.map es clock) ∧ Asc es (kvOf (ss.drop (n - i)) (n - i)))
    (fun i c W => False)
    (fun i X Y hi hm => by
      obtain ⟨h1, h2, h3, es, ck, h4, h5⟩ := hi
      exact ⟨Below.moves h1 hm (Nat.le_refl _) (fun k hk => by omega), hm.cells h2 (by omega), hm.cells h3 (by omega), es, ck, hm.dataObj h4 (by omega), h5⟩)
    (fun i c X Y hi hm => hi)
    ⟨hb, d0, d2, #[], 0, d1, by rw [Nat.sub_zero, ← Hl.out, List.drop_length]; rfl⟩ ?assign ?body ?done ?stop
  case assign =>
    intro l i W K hK
    gi_wp2
    exact hK
  case body =>
    rintro l i W hi ⟨hbW, e0, e2, es, ck, e1, hA⟩ hsW
    have e3 : W.cell? ⟨w.heap.size + 1 + 1, 0, none⟩ = some (.map (some (w.heap.size + 1))) := by simp [World.cell?, e2]
    have hlt : w.heap.size < W.heap.size := by omega
    have hi' : n - 1 - i < ss.length := by rw [Hl.out]; omega
    have hget : ss.getD (n - 1 - i) [] = ss[n - 1 - i] := by simp [List.getD_eq_getElem?_getD, hi']
    have hstep : updKV (ss.getD (n - 1 - i) []) ((n - 1 - i : Nat) : Int) (kvOf (ss.drop (n - i)) (n - i)) = kvOf (ss.drop (n - (i + 1))) (n - (i + 1)) := by
      rw [hget, show n - (i + 1) = n - 1 - i by omega, kvOf_drop ss (n - 1 - i) hi', show n - 1 - i + 1 = n - i by omega]
    have Hs := Lib.hid hstep
    clear hstep hget
    gi_wp2_with (refine wpListIn_upd_kv (kvs := kvOf (ss.drop (n - i)) (n - i)) (k := ss.getD (n - 1 - i) []) (v := ((n - 1 - i : Nat) : Int)) rfl rfl rfl rfl rfl Tryz.underlying202 Tryz.underlying9 e1 hA ?_; intro es' ck' hA')
    rw [Hs.out] at hA'
    refine ⟨Keeps.putData e1 rfl (by show ¬ (_ = _); omega) (by omega), below_putObj hbW (by omega), (World.putObj_heap_other (by omega)).trans e0, (World.putObj_heap_other (by omega)).trans e2, es', ck', World.putObj_heap_same (by omega), hA'⟩
  case done =>
    rintro D W hD ⟨hbW, e0, e2, es, ck, e1, hA⟩ hK
    have e3 : W.cell? ⟨w.heap.size + 1 + 1, 0, none⟩ = some (.map (some (w.heap.size + 1))) := by simp [World.cell?, e2]
    have e4 : W.cell? ⟨w.heap.size, 0, none⟩ = some (.slice none 0 0) := by simp [World.cell?, e0]
    have e5 : W.frozen? ⟨w.heap.size, 0, none⟩ = false := frozen_blk e0 0
    have e6 : W.cell? ⟨w.heap.size, 1, none⟩ = some (.map none) := by simp [World.cell?, e0]
    have e7 : W.frozen? ⟨w.heap.size, 1, none⟩ = false := frozen_blk e0 1
    go_wp2
    obtain ⟨V, hV⟩ : ∃ V, (W.setCell ⟨w.heap.size, 0, none⟩ (.slice A n c)).setCell ⟨w.heap.size, 1, none⟩ (.map (some (w.heap.size + 1))) = V := ⟨_, rfl⟩
    have hne : w.heap.size ≠ D := by omega
    have hne1 : w.heap.size + 1 ≠ D := by omega
    have hD2 : V.heap[D]? = some (.deferred (some [])) := by
      rw [← hV]; exact (Below.heap_setCell _ _ _ _ (Ne.symm hne)).trans ((Below.heap_setCell _ _ _ _ (Ne.symm hne)).trans hK)
    have hc0 : V.heap[w.heap.size]? = some (.cells #[.slice A n c, .map (some (w.heap.size + 1))] 204 (0, 0)) := by
      rw [← hV]; simp [World.setCell, Array.getElem?_modify, e0]
    have hc1 : V.heap[w.heap.size + 1]? = some (.map es ck) := by
      rw [← hV]; exact (Below.heap_setCell _ _ _ _ (Nat.succ_ne_self _)).trans ((Below.heap_setCell _ _ _ _ (Nat.succ_ne_self _)).trans e1)
    have hbV : Below w.heap.size w V := by rw [← hV]; exact (hbW.setCell (by simp) _).setCell (by simp) _
    rw [hV]
    clear hV
    refine ⟨by simp, .inl ⟨_, _, rfl, run_takeDeferred hD2, ?_⟩⟩
    have f0 := cell_blk ((World.putObj_heap_other (o := .deferred none) hne).trans hc0) 0
    have f1 := cell_blk ((World.putObj_heap_other (o := .deferred none) hne).trans hc0) 1
    rw [Nat.sub_self] at hA
    refine ⟨.agg #[.slice A n c, .map (some (w.heap.size + 1))], by simp [results, Tryz.results135, go_sem, f0, f1], w.heap.size + 1, es, ck, rfl, (World.putObj_heap_other hne1).trans hc1, hA, ?_⟩
    exact below_putObj hbV (by omega)
  case stop =>
    rintro D i c W hD hi hx hK
    exact hx.elim

def namesB (ss : List (List UInt8)) : Bool := decide (1 ≤ ss.length) && decide (ss.length ≤ 32) && decide (ss.Nodup) && ss.all nameB

theorem run_len_map {P : Program} {t K E : TypeId} {r : Nat} {es : Array MapEntry} {ck : Nat} {w : World} (ht : P.underlying t = some (.map K E)) (ty : TypeId) (hb : w.heap[r]? = some (.map es ck)) :
    (Builtin.len_ #[t] ty #[.map (some r)]).run P w = .ok (.int .i64 es.size) w := by
  unfold Builtin.len_
  simp [Sem.run_bind, run_underlying ht, run_getMap hb, Result.andThen, goInt]

set_option maxRecDepth 100000 in
set_option maxHeartbeats 400000 in
theorem prop_areNames (A : Option Addr) (n c : Nat) (ss : List (List UInt8)) (r : Nat) (es : Array MapEntry) (ck : Nat) (w : World) (hn : n ≤ 1000000) (hz : Strs w w.heap.size A n ss)
    (hs : ∀ x ∈ ss, x.length ≤ 1000000) (hr : w.heap[r]? = some (.map es ck)) (ha : Asc es (kvOf ss 0)) :
    Calls Tryz.prog 155 #[.agg #[.slice A n c, .map (some r)]] w fun e w' => e = .returned (.bool (namesB ss)) ∧ Below w.heap.size w w' := by
  have hlen := hz.len
  have hsa := size_asc ha
  have hk := length_kvOf ss 0
  have hc : ∀ W, Below w.heap.size w W → Calls Tryz.prog 173 #[.slice A n c, .func (.func 171) #[] #[]] W fun e w' => e = .returned (.bool (ss.any fun x => !nameB x)) ∧ Below W.heap.size W w' :=
    fun W hW => containsFunc_str A n c ss W (enters_of Tryz.func171 (by kernel_rfl) rfl) ((hz.below hW).more hW.size) hs (fun x V hV hx => areNames1 x V hx) hn
  have Hc := Lib.hid hc
  have Hl := Lib.hid hlen
  have Hs := Lib.hid hsa
  have Hk := Lib.hid hk
  have hrs : r < w.heap.size := (Array.getElem?_eq_some_iff.1 hr).1
  have hm1 : es.size < 9223372036854775808 := by omega
  clear hc hlen hsa hk ha hs hz
  have hln : ∀ o, (Builtin.len_ #[202] 3 #[.map (some r)]).run Tryz.prog (w.alloc o) = .ok (.int .i64 es.size) (w.alloc o) :=
    fun o => run_len_map Tryz.underlying202 _ ((heap_old hrs).trans hr)
  go_enter Tryz.func155, Tryz.ntmps155
  go_wp2_with (go_at_call 173; refine (Hc.out _ (by go_grown)).mono ?_; rintro e w1 ⟨rfl, hb1⟩)
  all_goals go_ret
  all_goals refine ⟨ret_bool ?_, ?_⟩
  all_goals try (first | exact Below.trans (by go_grown) (Below.mono hb1 (by simp)) | go_grown)
  all_goals have hl := Hl.out
  all_goals have hs := Hs.out
  all_goals have hk := Hk.out
  · have h2 : ss.Nodup := hk.2.1 (by omega)
    simp [namesB, h2, show 1 ≤ ss.length by omega, show ss.length ≤ 32 by omega, List.all_eq_not_any_not]
  · have h2 : ¬ ss.Nodup := fun h => by have := hk.2.2 h; omega
    simp [namesB, h2]
  · simp [namesB, show ¬ ss.length ≤ 32 by omega]
  · simp [namesB, show ¬ 1 ≤ ss.length by omega]

end Go.Vir


namespace Go.Vir
open Go Go.Lib

def saysB (ss : List (List UInt8)) (k : Nat) (x : RecV) : Option Int := x.fs[k]?.bind fun s => valB s ss 0
def rgOf (x : RecV) (v : Int) : Rg := { f := x.f, t := x.t, v := v }
def readsB (ss : List (List UInt8)) (k : Nat) (loose : Bool) : List RecV → List Rg → List Rg ⊕ (Int × Int)
  | [], out => .inl out
  | x :: l, out => match saysB ss k x with
    | none => if loose then readsB ss k loose l out else .inr (x.line, 40)
    | some v => if out.any (lapR (rgOf x v)) then .inr (x.line, 30) else readsB ss k loose l (out ++ [rgOf x v])
theorem readsB_cons (ss : List (List UInt8)) (k : Nat) (loose : Bool) (x : RecV) (l : List RecV) (out : List Rg) : readsB ss k loose (x :: l) out = match saysB ss k x with
    | none => if loose then readsB ss k loose l out else .inr (x.line, 40)
    | some v => if out.any (lapR (rgOf x v)) then .inr (x.line, 30) else readsB ss k loose l (out ++ [rgOf x v]) := by rw [readsB]
def readB (file : List UInt8) (ss : List (List UInt8)) (k : Int) (loose : Bool) : List Rg × Int × Int :=
  if namesB ss = true ∧ 0 ≤ k ∧ k < 20 then
    if (fileN file).2.2 = 0 then match readsB ss k.toNat loose (fileN file).1 [] with
      | .inl out => (tightR (sortR out), 0, 0)
      | .inr e => ([], e.1, e.2)
    else ([], (fileN file).2.1, (fileN file).2.2)
  else ([], 0, 2)
theorem valB_bound {s : List UInt8} {ss : List (List UInt8)} {v : Int} (h : valB s ss 0 = some v) : 0 ≤ v ∧ v < ss.length := by
  obtain ⟨j, h1, h2⟩ := valB_range s ss 0 v h
  omega
theorem says_bound {ss : List (List UInt8)} {k : Nat} {x : RecV} {v : Int} (h : saysB ss k x = some v) : 0 ≤ v ∧ v < ss.length := by
  unfold saysB at h
  rcases hk : x.fs[k]? with _ | s
  · rw [hk] at h; cases h
  · rw [hk] at h; exact valB_bound h

structure OutOk (n : Nat) (out : List Rg) : Prop where
  one : ∀ x ∈ out, oneR x = true
  apart : apartR out
  val : ∀ x ∈ out, 0 ≤ x.v ∧ x.v < n
theorem OutOk.nil (n : Nat) : OutOk n [] := ⟨by simp, List.Pairwise.nil, by simp⟩
theorem OutOk.snoc {n : Nat} {out : List Rg} {x : Rg} (h : OutOk n out) (h1 : oneR x = true) (h2 : out.any (lapR x) = false) (h3 : 0 ≤ x.v ∧ x.v < n) : OutOk n (out ++ [x]) := by
  refine ⟨fun y hy => ?_, ?_, fun y hy => ?_⟩
  · rcases List.mem_append.1 hy with hy | hy
    · exact h.one y hy
    · simp only [List.mem_singleton] at hy; subst hy; exact h1
  · refine List.pairwise_append.2 ⟨h.apart, by simp, fun y hy z hz => ?_⟩
    simp only [List.mem_singleton] at hz
    subst hz
    have := List.any_eq_false.1 h2 y hy
    simpa using this
  · rcases List.mem_append.1 hy with hy | hy
    · exact h.val y hy
    · simp only [List.mem_singleton] at hy; subst hy; exact h3
theorem rgOf_one {ss : List (List UInt8)} {k : Nat} {x : RecV} {v : Int} (hx : recOk x) (h : saysB ss k x = some v) (hn : ss.length ≤ 32) : oneR (rgOf x v) = true ∧ 0 ≤ (rgOf x v).v ∧ (rgOf x v).v < ss.length := by
  have hb := says_bound h
  exact ⟨oneR_iff.2 ⟨hx.1, hx.2.1, hx.2.2.1, hb.1, by show v ≤ 31; omega⟩, hb⟩
theorem reads_ok {ss : List (List UInt8)} {k : Nat} {loose : Bool} (hn : ss.length ≤ 32) : ∀ {l : List RecV} {out out' : List Rg}, (∀ x ∈ l, recOk x) → OutOk ss.length out → readsB ss k loose l out = .inl out' → OutOk ss.length out' ∧ out'.length ≤ out.length + l.length ∧
    ∀ y, y ∈ out' ↔ y ∈ out ∨ ∃ x ∈ l, ∃ v, saysB ss k x = some v ∧ y = rgOf x v
  | [], out, out', _, ho, h => by
    cases h
    exact ⟨ho, by simp, fun y => by simp⟩
  | x :: l, out, out', hl, ho, h => by
    unfold readsB at h
    have hl2 : ∀ z ∈ l, recOk z := fun z hz => hl z (List.mem_cons_of_mem _ hz)
    rcases hs : saysB ss k x with _ | v
    · rw [hs] at h
      simp only at h
      split at h
      · obtain ⟨h1, h2, h3⟩ := reads_ok hn hl2 ho h
        refine ⟨h1, by simp; omega, fun y => ?_⟩
        rw [h3]
        constructor
        · rintro (h | ⟨z, hz, h⟩)
          · exact .inl h
          · exact .inr ⟨z, List.mem_cons_of_mem _ hz, h⟩
        · rintro (h | ⟨z, hz, v, h4, h5⟩)
          · exact .inl h
          · rcases List.mem_cons.1 hz with e | hz
            · subst e; rw [hs] at h4; cases h4
            · exact .inr ⟨z, hz, v, h4, h5⟩
      · cases h
    · rw [hs] at h
      simp only at h
      split at h
      · cases h
      · rename_i hlap
        obtain ⟨o1, o2⟩ := rgOf_one (hl x (List.mem_cons_self ..)) hs hn
        obtain ⟨h1, h2, h3⟩ := reads_ok hn hl2 (ho.snoc o1 (by simpa using hlap) o2) h
        refine ⟨h1, by simp at h2 ⊢; omega, fun y => ?_⟩
        rw [h3, List.mem_append, List.mem_singleton]
        constructor
        · rintro ((h | h) | ⟨z, hz, h⟩)
          · exact .inl h
          · exact .inr ⟨x, List.mem_cons_self .., v, hs, h⟩
          · exact .inr ⟨z, List.mem_cons_of_mem _ hz, h⟩
        · rintro (h | ⟨z, hz, v', h4, h5⟩)
          · exact .inl (.inl h)
          · rcases List.mem_cons.1 hz with e | hz
            · subst e; rw [hs] at h4; cases h4; exact .inl (.inr h5)
            · exact .inr ⟨z, hz, v', h4, h5⟩
theorem names_len {ss : List (List UInt8)} (h : namesB ss = true) : 1 ≤ ss.length ∧ ss.length ≤ 32 ∧ ss.Nodup := by
  unfold namesB at h
  simp only [Bool.and_eq_true, decide_eq_true_eq] at h
  exact ⟨h.1.1.1, h.1.1.2, h.1.2⟩
theorem read_ok {file : List UInt8} {ss : List (List UInt8)} {k : Int} {loose : Bool} (h : (readB file ss k loose).2.2 = 0) :
    namesB ss = true ∧ (0 ≤ k ∧ k < 20) ∧ (fileN file).2.2 = 0 ∧ ∃ out, readsB ss k.toNat loose (fileN file).1 [] = .inl out ∧ (readB file ss k loose) = (tightR (sortR out), 0, 0) ∧ OutOk ss.length out ∧ out.length ≤ 300 ∧
      ∀ y, y ∈ out ↔ ∃ x ∈ (fileN file).1, ∃ v, saysB ss k.toNat x = some v ∧ y = rgOf x v := by
  unfold readB at h ⊢
  split at h
  · rename_i hc
    split at h
    · rename_i hf
      rcases hr : readsB ss k.toNat loose (fileN file).1 [] with out | e
      · obtain ⟨h1, h2, h3⟩ := reads_ok (names_len hc.1).2.1 (fileN_ok file).1 (OutOk.nil _) hr
        refine ⟨hc.1, hc.2, hf, out, rfl, by rw [if_pos hc, if_pos hf], h1, by have := (fileN_ok file).2; simp at h2; omega, fun y => by rw [h3]; simp⟩
      · rw [hr] at h
        have h0 : e.2 = 0 := h
        have : ∀ {l : List RecV} {out : List Rg} {e : Int × Int}, readsB ss k.toNat loose l out = .inr e → e.2 ≠ 0 := by
          intro l
          induction l with
          | nil => intro out e h; cases h
          | cons x l ih =>
            intro out e h
            unfold readsB at h
            split at h
            · split at h
              · exact ih h
              · cases h; simp
            · split at h
              · cases h; simp
              · exact ih h
        exact absurd h0 (this hr)
    · rename_i hf; exact absurd h hf
  · cases h
theorem read_bad {file : List UInt8} {ss : List (List UInt8)} {k : Int} {loose : Bool} (h : (readB file ss k loose).2.2 ≠ 0) : (readB file ss k loose).1 = [] := by
  unfold readB at h ⊢
  split
  · rename_i hc
    rw [if_pos hc] at h
    split
    · rename_i hf
      rw [if_pos hf] at h
      split
      · rename_i hr; rw [hr] at h; exact absurd rfl h
      · rfl
    · rfl
  · rfl
theorem read_map {file : List UInt8} {ss : List (List UInt8)} {k : Int} {loose : Bool} (h : (readB file ss k loose).2.2 = 0) :
    riseR (-1) (readB file ss k loose).1 = true ∧ (readB file ss k loose).1.length ≤ 300 ∧ (∀ x ∈ (readB file ss k loose).1, 0 ≤ x.v ∧ x.v < ss.length) ∧
    ∀ r v, findR (readB file ss k loose).1 r = some v ↔ ∃ x ∈ (fileN file).1, saysB ss k.toNat x = some v ∧ x.f ≤ r ∧ r ≤ x.t := by
  obtain ⟨hn, hk, hf, out, hr, he, ho, hl, hm⟩ := read_ok h
  rw [he]
  simp only
  have hs := sort_rise out ho.apart ho.one
  obtain ⟨h1, h2, h3⟩ := tight_rise hs
  have hlen := sort_len out
  have hfind : ∀ r v, findR (tightR (sortR out)) r = some v ↔ ∃ x ∈ (fileN file).1, saysB ss k.toNat x = some v ∧ x.f ≤ r ∧ r ≤ x.t := fun r v => by
    rw [h3, sort_find ho.apart ho.one]
    constructor
    · rintro ⟨y, hy, a, b, rfl⟩
      obtain ⟨x, hx, v, hv, rfl⟩ := (hm y).1 hy
      exact ⟨x, hx, hv, a, b⟩
    · rintro ⟨x, hx, hv, a, b⟩
      exact ⟨rgOf x v, (hm _).2 ⟨x, hx, v, hv, rfl⟩, a, b, rfl⟩
  refine ⟨h1, by omega, fun x hx => ?_, hfind⟩
  have hox := oneR_iff.1 (rise_one h1 x hx).1
  have hx2 : findR (tightR (sortR out)) x.f = some x.v := (find_rise h1).2 ⟨x, hx, by omega, by omega, rfl⟩
  obtain ⟨y, _, hv, _⟩ := (hfind _ _).1 hx2
  exact says_bound hv

end Go.Vir


namespace Go.Vir
open Go

structure TrV where
  ix : List Int
  bl : List (List Int)
  deriving DecidableEq

def blkB (b : List Int) : Bool := decide (b.length = 256) && b.all fun v => decide (0 ≤ v) && decide (v ≤ 31)
def rightT (t : TrV) : Bool := decide (t.ix.length = 4352) && (t.ix.all (fun n => decide (0 ≤ n) && decide (n < t.bl.length)) && t.bl.all blkB)
def atT (t : TrV) (r : Nat) : Int := (t.bl.getD (t.ix.getD (r / 256) 0).toNat []).getD (r % 256) 0
def valT (t : TrV) (r : Int) : Int := if 0 ≤ r ∧ r ≤ 1114111 ∧ rightT t = true then atT t r.toNat else 0
def sayR (l : List Rg) (r : Int) : Int := l.foldl (fun v x => if x.f ≤ r ∧ r ≤ x.t then x.v else v) 0
def blockT (l : List Rg) (row : Nat) : List Int := (List.range 256).map fun (j : Nat) => sayR l ((row * 256 + j : Nat) : Int)
def putT (t : TrV) (b : List Int) : TrV := { ix := t.ix ++ [(t.bl.idxOf b : Int)], bl := if b ∈ t.bl then t.bl else t.bl ++ [b] }
def rowsT (l : List Rg) : Nat → TrV
  | 0 => { ix := [], bl := [] }
  | k + 1 => putT (rowsT l k) (blockT l k)
def buildT (l : List Rg) : TrV := rowsT l 4352

theorem say_acc : ∀ (l : List Rg) (r a : Int), l.foldl (fun v x => if x.f ≤ r ∧ r ≤ x.t then x.v else v) a = a ∨ ∃ x ∈ l, l.foldl (fun v x => if x.f ≤ r ∧ r ≤ x.t then x.v else v) a = x.v ∧ x.f ≤ r ∧ r ≤ x.t
  | [], _, _ => .inl rfl
  | x :: l, r, a => by
    rw [List.foldl_cons]
    by_cases h : x.f ≤ r ∧ r ≤ x.t
    · rw [if_pos h]
      rcases say_acc l r x.v with h1 | ⟨y, hy, h1⟩
      · exact .inr ⟨x, List.mem_cons_self .., h1, h⟩
      · exact .inr ⟨y, List.mem_cons_of_mem _ hy, h1⟩
    · rw [if_neg h]
      rcases say_acc l r a with h1 | ⟨y, hy, h1⟩
      · exact .inl h1
      · exact .inr ⟨y, List.mem_cons_of_mem _ hy, h1⟩
theorem say_none : ∀ {l : List Rg} {r a : Int}, (∀ x ∈ l, ¬ (x.f ≤ r ∧ r ≤ x.t)) → l.foldl (fun v x => if x.f ≤ r ∧ r ≤ x.t then x.v else v) a = a
  | [], _, _, _ => rfl
  | x :: l, r, a, h => by
    rw [List.foldl_cons, if_neg (h x (List.mem_cons_self ..))]
    exact say_none fun y hy => h y (List.mem_cons_of_mem _ hy)
theorem say_snoc (l : List Rg) (x : Rg) (r : Int) : sayR (l ++ [x]) r = if x.f ≤ r ∧ r ≤ x.t then x.v else sayR l r := by
  unfold sayR; rw [List.foldl_append]; rfl
theorem say_mid (a b c : List Rg) (r : Int) (ha : ∀ x ∈ a, ¬ (x.f ≤ r ∧ r ≤ x.t)) (hc : ∀ x ∈ c, ¬ (x.f ≤ r ∧ r ≤ x.t)) : sayR (a ++ (b ++ c)) r = sayR b r := by
  unfold sayR
  rw [List.foldl_append, List.foldl_append, say_none ha, say_none hc]
theorem say_val {l : List Rg} {r : Int} (h : ∀ x ∈ l, 0 ≤ x.v ∧ x.v ≤ 31) : 0 ≤ sayR l r ∧ sayR l r ≤ 31 := by
  unfold sayR
  rcases say_acc l r 0 with h1 | ⟨x, hx, h1, _⟩
  · rw [h1]; decide
  · rw [h1]; exact h x hx
theorem block_len (l : List Rg) (row : Nat) : (blockT l row).length = 256 := by simp [blockT]
theorem block_get (l : List Rg) (row : Nat) {j : Nat} (hj : j < 256) : (blockT l row)[j]? = some (sayR l ((row * 256 + j : Nat) : Int)) := by
  simp [blockT, List.getElem?_map, List.getElem?_range hj]
theorem block_right {l : List Rg} (h : ∀ x ∈ l, 0 ≤ x.v ∧ x.v ≤ 31) (row : Nat) : blkB (blockT l row) = true := by
  unfold blkB
  rw [block_len]
  simp only [decide_true, Bool.true_and, List.all_eq_true]
  intro v hv
  unfold blockT at hv
  rw [List.mem_map] at hv
  obtain ⟨j, _, rfl⟩ := hv
  have := say_val (r := ((row * 256 + j : Nat) : Int)) h
  simp only [Bool.and_eq_true, decide_eq_true_eq]
  exact this

structure RowsInv (l : List Rg) (k : Nat) (t : TrV) : Prop where
  len : t.ix.length = k
  blen : t.bl.length ≤ k
  at_ : ∀ i, i < k → ∃ n : Nat, t.ix[i]? = some (n : Int) ∧ t.bl[n]? = some (blockT l i)
  mem : ∀ b ∈ t.bl, ∃ i, b = blockT l i
theorem rows_inv (l : List Rg) : ∀ k, RowsInv l k (rowsT l k)
  | 0 => ⟨rfl, Nat.le_refl _, fun i hi => absurd hi (by omega), fun b hb => by cases hb⟩
  | k + 1 => by
    have ih := rows_inv l k
    show RowsInv l (k + 1) (putT (rowsT l k) (blockT l k))
    generalize rowsT l k = t at ih
    unfold putT
    refine ⟨by simp [ih.len], ?_, fun i hi => ?_, fun b hb => ?_⟩
    · have := ih.blen
      show (if blockT l k ∈ t.bl then t.bl else t.bl ++ [blockT l k]).length ≤ k + 1
      split
      · omega
      · simp; omega
    · rcases Nat.lt_or_ge i k with h | h
      · obtain ⟨n, h1, h2⟩ := ih.at_ i h
        refine ⟨n, by rw [List.getElem?_append_left (by rw [ih.len]; exact h)]; exact h1, ?_⟩
        show (if blockT l k ∈ t.bl then t.bl else t.bl ++ [blockT l k])[n]? = some (blockT l i)
        split
        · exact h2
        · rw [List.getElem?_append_left (List.getElem?_eq_some_iff.1 h2).1]; exact h2
      · obtain rfl : i = k := by omega
        refine ⟨t.bl.idxOf (blockT l i), by rw [List.getElem?_append_right (by rw [ih.len]; exact Nat.le_refl _), ih.len]; simp, ?_⟩
        show (if blockT l i ∈ t.bl then t.bl else t.bl ++ [blockT l i])[t.bl.idxOf (blockT l i)]? = some (blockT l i)
        split
        · rename_i hm
          have hlt : t.bl.idxOf (blockT l i) < t.bl.length := List.idxOf_lt_length_of_mem hm
          rw [List.getElem?_eq_getElem hlt, List.getElem_idxOf hlt]
        · rename_i hm
          rw [List.idxOf_eq_length hm]
          simp
    · have hb' : b ∈ (if blockT l k ∈ t.bl then t.bl else t.bl ++ [blockT l k]) := hb
      split at hb'
      · exact ih.mem b hb'
      · rcases List.mem_append.1 hb' with h | h
        · exact ih.mem b h
        · exact ⟨k, List.mem_singleton.1 h⟩
theorem build_right {l : List Rg} (h : ∀ x ∈ l, 0 ≤ x.v ∧ x.v ≤ 31) : rightT (buildT l) = true := by
  unfold buildT
  have hi := rows_inv l 4352
  generalize rowsT l 4352 = T at hi ⊢
  unfold rightT
  rw [hi.len]
  simp only [decide_true, Bool.true_and, Bool.and_eq_true, List.all_eq_true, decide_eq_true_eq]
  refine ⟨fun n hn => ?_, fun b hb => ?_⟩
  · obtain ⟨i, hlt, rfl⟩ := List.getElem_of_mem hn
    obtain ⟨m, h1, h2⟩ := hi.at_ i (by rw [← hi.len]; exact hlt)
    rw [List.getElem?_eq_getElem hlt] at h1
    have := (List.getElem?_eq_some_iff.1 h2).1
    have h3 := Option.some.inj h1
    omega
  · obtain ⟨i, rfl⟩ := hi.mem b hb
    exact block_right h i
theorem build_at (l : List Rg) {r : Nat} (hr : r ≤ 1114111) : atT (buildT l) r = sayR l (r : Int) := by
  unfold buildT
  have hi := rows_inv l 4352
  generalize rowsT l 4352 = T at hi ⊢
  obtain ⟨n, h1, h2⟩ := hi.at_ (r / 256) (by omega)
  unfold atT
  rw [List.getD_eq_getElem?_getD, List.getD_eq_getElem?_getD, List.getD_eq_getElem?_getD, h1, Option.getD_some, Int.toNat_natCast, h2, Option.getD_some, block_get l _ (Nat.mod_lt _ (by decide)), Option.getD_some]
  congr 2
  omega
theorem build_val {l : List Rg} (h : ∀ x ∈ l, 0 ≤ x.v ∧ x.v ≤ 31) {r : Int} (h0 : 0 ≤ r) (h1 : r ≤ 1114111) : valT (buildT l) r = sayR l r := by
  unfold valT
  rw [if_pos ⟨h0, h1, build_right h⟩, build_at l (by omega)]
  congr 1; omega

theorem right_parts {t : TrV} (h : rightT t = true) : t.ix.length = 4352 ∧ (∀ n ∈ t.ix, 0 ≤ n ∧ n < t.bl.length) ∧ ∀ b ∈ t.bl, b.length = 256 ∧ ∀ v ∈ b, 0 ≤ v ∧ v ≤ 31 := by
  unfold rightT blkB at h
  simp only [Bool.and_eq_true, List.all_eq_true, decide_eq_true_eq] at h
  exact h
theorem right_at {t : TrV} (h : rightT t = true) {r : Nat} (hr : r ≤ 1114111) : ∃ (n : Nat) (h1 : r / 256 < t.ix.length) (h2 : n < t.bl.length) (h3 : r % 256 < t.bl[n].length), t.ix[r / 256] = (n : Int) ∧ t.bl[n][r % 256] = atT t r ∧ 0 ≤ atT t r ∧ atT t r ≤ 31 := by
  obtain ⟨a, b, c⟩ := right_parts h
  have h1 : r / 256 < t.ix.length := by omega
  obtain ⟨p, q⟩ := b _ (List.getElem_mem h1)
  obtain ⟨n, hn⟩ : ∃ n : Nat, t.ix[r / 256] = (n : Int) := ⟨(t.ix[r / 256]).toNat, by omega⟩
  have h2 : n < t.bl.length := by omega
  obtain ⟨u, v⟩ := c _ (List.getElem_mem h2)
  have h3 : r % 256 < t.bl[n].length := by rw [u]; exact Nat.mod_lt _ (by decide)
  have e : t.bl[n][r % 256] = atT t r := by
    unfold atT
    rw [List.getD_eq_getElem?_getD, List.getD_eq_getElem?_getD, List.getD_eq_getElem?_getD, List.getElem?_eq_getElem h1, Option.getD_some, hn, Int.toNat_natCast, List.getElem?_eq_getElem h2, Option.getD_some, List.getElem?_eq_getElem h3, Option.getD_some]
  exact ⟨n, h1, h2, h3, hn, e, by rw [← e]; exact (v _ (List.getElem_mem h3)).1, by rw [← e]; exact (v _ (List.getElem_mem h3)).2⟩
end Go.Vir


namespace Go.Vir
open Go Go.Lib

def scaR (r : Int) : Bool := decide (0 ≤ r) && (decide (r ≤ 1114111) && (decide (r < 55296) || decide (57343 < r)))

end Go.Vir


namespace Go.Vir
open Go

structure MpV where
  f : Int
  ts : List Int
  deriving DecidableEq
structure CasV where
  lo : List MpV
  ti : List MpV
  ca : TrV
  ig : TrV
  deriving DecidableEq

def allM (l : List Int) : Bool := l.all scaR && decide (l.length ≤ 3)
def mapsM : Int → List MpV → Bool
  | _, [] => true
  | last, x :: l => scaR x.f && (decide (last < x.f) && (allM x.ts && mapsM x.f l))
def mapsB (l : List MpV) : Bool := mapsM (-1) l && decide (l.length ≤ 600)
def rightC (c : CasV) : Bool := mapsB c.lo && (mapsB c.ti && (rightT c.ca && rightT c.ig))
def lookM (l : List MpV) (r : Int) : Option (List Int) := (l.find? fun x => decide (x.f = r)).map (·.ts)
def becM (l : List MpV) (r : Int) : List Int := (lookM l r).getD [r]
def chkC (c : CasV) (r : Int) : Int := if rightC c = true then (if scaR r = true then 0 else 10) else 140
def lowC (c : CasV) (r : Int) : List Int × Int := if chkC c r = 0 then (becM c.lo r, 0) else ([], chkC c r)
def titC (c : CasV) (r : Int) : List Int × Int := if chkC c r = 0 then (becM c.ti r, 0) else ([], chkC c r)
def kindC (c : CasV) (r : Int) : Bool × Bool × Int := if chkC c r = 0 then (decide (valT c.ca r ≠ 0), decide (valT c.ig r ≠ 0), 0) else (false, false, chkC c r)

def putM : List MpV → Int → List Int → List MpV
  | [], r, ts => [{ f := r, ts := ts }]
  | x :: l, r, ts => if x.f < r then x :: putM l r ts else if x.f = r then { f := r, ts := ts } :: l else { f := r, ts := ts } :: x :: l
def ascM (l : List MpV) : Prop := l.Pairwise fun x y => x.f < y.f

theorem look_cons (x : MpV) (l : List MpV) (q : Int) : lookM (x :: l) q = if x.f = q then some x.ts else lookM l q := by
  unfold lookM
  rw [List.find?_cons]
  by_cases h : x.f = q
  · simp [h]
  · simp [h]
theorem look_none {l : List MpV} {q : Int} (h : ∀ x ∈ l, x.f ≠ q) : lookM l q = none := by
  unfold lookM
  rw [List.find?_eq_none.2 (by simpa using h)]
  rfl
theorem look_putM : ∀ (l : List MpV) (r : Int) (ts : List Int), ascM l → ∀ q, lookM (putM l r ts) q = if q = r then some ts else lookM l q
  | [], r, ts, _, q => by
    unfold putM
    rw [look_cons]
    by_cases h : q = r
    · simp [h]
    · rw [if_neg (fun e => h e.symm), if_neg h]
  | x :: l, r, ts, ha, q => by
    obtain ⟨h1, h2⟩ := List.pairwise_cons.1 ha
    unfold putM
    by_cases hx : x.f < r
    · rw [if_pos hx, look_cons, look_putM l r ts h2 q, look_cons]
      by_cases h : q = r
      · subst h
        rw [if_neg (by omega), if_pos rfl, if_pos rfl]
      · rw [if_neg h, if_neg h]
    · rw [if_neg hx]
      by_cases he : x.f = r
      · rw [if_pos he, look_cons, look_cons]
        by_cases h : q = r
        · subst h; simp
        · rw [if_neg (fun e => h e.symm), if_neg h, if_neg (by rw [he]; exact fun e => h e.symm)]
      · rw [if_neg he, look_cons]
        by_cases h : q = r
        · subst h; simp
        · rw [if_neg (fun e => h e.symm), if_neg h]
theorem putM_mem : ∀ (l : List MpV) (r : Int) (ts : List Int) (y : MpV), y ∈ putM l r ts → y = { f := r, ts := ts } ∨ y ∈ l
  | [], r, ts, y, h => by
    unfold putM at h
    exact .inl (List.mem_singleton.1 h)
  | x :: l, r, ts, y, h => by
    unfold putM at h
    split at h
    · rcases List.mem_cons.1 h with rfl | h
      · exact .inr (List.mem_cons_self ..)
      · rcases putM_mem l r ts y h with e | e
        · exact .inl e
        · exact .inr (List.mem_cons_of_mem _ e)
    · split at h
      · rcases List.mem_cons.1 h with e | h
        · exact .inl e
        · exact .inr (List.mem_cons_of_mem _ h)
      · rcases List.mem_cons.1 h with e | h
        · exact .inl e
        · exact .inr h
theorem putM_asc : ∀ (l : List MpV) (r : Int) (ts : List Int), ascM l → ascM (putM l r ts)
  | [], r, ts, _ => by unfold putM ascM; exact List.pairwise_singleton _ _
  | x :: l, r, ts, ha => by
    obtain ⟨h1, h2⟩ := List.pairwise_cons.1 ha
    unfold putM
    by_cases hx : x.f < r
    · rw [if_pos hx]
      refine List.pairwise_cons.2 ⟨fun y hy => ?_, putM_asc l r ts h2⟩
      rcases putM_mem l r ts y hy with rfl | h
      · exact hx
      · exact h1 y h
    · rw [if_neg hx]
      by_cases he : x.f = r
      · rw [if_pos he]
        exact List.pairwise_cons.2 ⟨fun y hy => by have := h1 y hy; show r < y.f; omega, h2⟩
      · rw [if_neg he]
        refine List.pairwise_cons.2 ⟨fun y hy => ?_, ha⟩
        show r < y.f
        rcases List.mem_cons.1 hy with rfl | h
        · omega
        · have := h1 y h; omega
theorem putM_len (l : List MpV) (r : Int) (ts : List Int) : (putM l r ts).length ≤ l.length + 1 := by
  induction l with
  | nil => simp [putM]
  | cons x l ih =>
    unfold putM
    split
    · simp only [List.length_cons]; omega
    · split <;> simp

def oneF (s : List UInt8) : Option (List Int) := if s = [] then some [] else match codeN s with
  | some r => if scaR (r : Int) = true then some [(r : Int)] else none
  | none => none
def codesL : List (List UInt8) → Option (List Int)
  | [] => some []
  | t :: l => if t = [] then codesL l else match codeN t with
    | some r => (codesL l).map ((r : Int) :: ·)
    | none => none
def codesF (s : List UInt8) : Option (List Int) := if s.head? = some 32 ∨ s.getLast? = some 32 then none else codesL (splitL 32 s)
def someF (s : List UInt8) : Option (List Int) := (codesF s).bind fun l => if allM l = true then some l else none
def skipD (x : RecV) : Bool := !(decide (x.f = x.t) && scaR x.f)
def skipS (x : RecV) : Bool := skipD x || (decide (3 < x.fs.length) && decide (x.fs.getD 3 [] ≠ []))
def saysD (x : RecV) : Option (Option (List Int) × Option (List Int)) := match oneF (x.fs.getD 11 []), oneF (x.fs.getD 12 []), oneF (x.fs.getD 13 []) with
  | some a, some b, some c => some (if b = [] then none else some b, if c = [] then (if a = [] then none else some a) else some c)
  | _, _, _ => none
def saysS (x : RecV) : Option (Option (List Int) × Option (List Int)) := match someF (x.fs.getD 0 []), someF (x.fs.getD 1 []) with
  | some a, some b => some (some a, some b)
  | _, _ => none
def putO (l : List MpV) (r : Int) : Option (List Int) → List MpV
  | none => l
  | some ts => putM l r ts
def recsC (least : Nat) (skip : RecV → Bool) (says : RecV → Option (Option (List Int) × Option (List Int))) : List RecV → List Int → List MpV × List MpV → (List MpV × List MpV) ⊕ (Int × Int)
  | [], _, s => .inl s
  | x :: l, met, s => if skip x = true then recsC least skip says l met s else if x.fs.length < least then .inr (x.line, 23) else match says x with
    | none => .inr (x.line, 21)
    | some (a, b) => if x.f ∈ met then .inr (x.line, 30) else recsC least skip says l (met ++ [x.f]) (putO s.1 x.f a, putO s.2 x.f b)
def fileC (least : Nat) (skip : RecV → Bool) (says : RecV → Option (Option (List Int) × Option (List Int))) (t : List UInt8) (s : List MpV × List MpV) : (List MpV × List MpV) ⊕ (Int × Int) :=
  if (fileN t).2.2 = 0 then recsC least skip says (fileN t).1 [] s else .inr ((fileN t).2.1, (fileN t).2.2)
def dataC := fileC 14 skipD saysD
def specC := fileC 3 skipS saysS
def noN : List UInt8 := [78, 111]
def casedN : List UInt8 := [67, 97, 115, 101, 100]
def ignN : List UInt8 := [67, 97, 115, 101, 95, 73, 103, 110, 111, 114, 97, 98, 108, 101]
def makeC (a b c : List UInt8) : CasV × Int × Int × Int :=
  let bad (f n e : Int) : CasV × Int × Int × Int := ({ lo := [], ti := [], ca := { ix := [], bl := [] }, ig := { ix := [], bl := [] } }, f, n, e)
  match dataC a ([], []) with
  | .inr e => bad 1 e.1 e.2
  | .inl s => match specC b s with
    | .inr e => bad 2 e.1 e.2
    | .inl s =>
      if (readB c [noN, casedN] 0 true).2.2 ≠ 0 then bad 3 (readB c [noN, casedN] 0 true).2.1 (readB c [noN, casedN] 0 true).2.2
      else if (readB c [noN, ignN] 0 true).2.2 ≠ 0 then bad 3 (readB c [noN, ignN] 0 true).2.1 (readB c [noN, ignN] 0 true).2.2
      else ({ lo := s.1, ti := s.2, ca := buildT (readB c [noN, casedN] 0 true).1, ig := buildT (readB c [noN, ignN] 0 true).1 }, 0, 0, 0)
end Go.Vir


namespace Go.Vir
open Go

theorem mapsM_of : ∀ (l : List MpV) (last : Int), ascM l → (∀ x ∈ l, scaR x.f = true ∧ allM x.ts = true) → (∀ x ∈ l, last < x.f) → mapsM last l = true
  | [], _, _, _, _ => rfl
  | x :: l, last, ha, h, hl => by
    obtain ⟨h1, h2⟩ := List.pairwise_cons.1 ha
    unfold mapsM
    have hx := h x (List.mem_cons_self ..)
    rw [hx.1, hx.2, decide_eq_true (hl x (List.mem_cons_self ..)), mapsM_of l x.f h2 (fun y hy => h y (List.mem_cons_of_mem _ hy)) h1]
    rfl
theorem mapsM_all : ∀ {l : List MpV} {last : Int}, mapsM last l = true → (∀ x ∈ l, scaR x.f = true ∧ allM x.ts = true ∧ last < x.f) ∧ ascM l
  | [], _, _ => ⟨(fun x hx => by cases hx), List.Pairwise.nil⟩
  | x :: l, last, h => by
    unfold mapsM at h
    simp only [Bool.and_eq_true, decide_eq_true_eq] at h
    obtain ⟨h1, h2, h3, h4⟩ := h
    obtain ⟨i1, i2⟩ := mapsM_all h4
    refine ⟨fun y hy => ?_, List.pairwise_cons.2 ⟨fun y hy => (i1 y hy).2.2, i2⟩⟩
    rcases List.mem_cons.1 hy with rfl | hy
    · exact ⟨h1, h3, h2⟩
    · have := i1 y hy
      exact ⟨this.1, this.2.1, by omega⟩
theorem look_mem {l : List MpV} {r : Int} {ts : List Int} (h : lookM l r = some ts) : ∃ x ∈ l, x.f = r ∧ x.ts = ts := by
  unfold lookM at h
  obtain ⟨x, hx, rfl⟩ := Option.map_eq_some_iff.1 h
  exact ⟨x, List.mem_of_find?_eq_some hx, by simpa using List.find?_some hx, rfl⟩
theorem bec_all {l : List MpV} {r : Int} (h : mapsB l = true) (hr : scaR r = true) : allM (becM l r) = true := by
  unfold mapsB at h
  simp only [Bool.and_eq_true] at h
  unfold becM
  cases hl : lookM l r with
  | none => simp [allM, hr]
  | some ts =>
    obtain ⟨x, hx, _, rfl⟩ := look_mem hl
    exact ((mapsM_all h.1).1 x hx).2.1
section
variable {least : Nat} {skip : RecV → Bool} {says : RecV → Option (Option (List Int) × Option (List Int))}
theorem recsC_inv {P : MpV → Prop} (hP : ∀ x a b, skip x = false → says x = some (a, b) → (∀ ts, a = some ts → P { f := x.f, ts := ts }) ∧ (∀ ts, b = some ts → P { f := x.f, ts := ts })) :
    ∀ (l : List RecV) (met : List Int) (s t : List MpV × List MpV), recsC least skip says l met s = .inl t → ascM s.1 → ascM s.2 → (∀ x ∈ s.1, P x) → (∀ x ∈ s.2, P x) →
      ascM t.1 ∧ ascM t.2 ∧ (∀ x ∈ t.1, P x) ∧ (∀ x ∈ t.2, P x) ∧ t.1.length ≤ s.1.length + l.length ∧ t.2.length ≤ s.2.length + l.length
  | [], met, s, t, h, h1, h2, h3, h4 => by
    obtain rfl : s = t := Sum.inl.inj h
    exact ⟨h1, h2, h3, h4, Nat.le_refl _, Nat.le_refl _⟩
  | x :: l, met, s, t, h, h1, h2, h3, h4 => by
    unfold recsC at h
    split at h
    · obtain ⟨a, b, c, d, e, f⟩ := recsC_inv hP l met s t h h1 h2 h3 h4
      exact ⟨a, b, c, d, by simp only [List.length_cons]; omega, by simp only [List.length_cons]; omega⟩
    · rename_i hs
      split at h
      · cases h
      · split at h
        · cases h
        · rename_i a b hab
          split at h
          · cases h
          · obtain ⟨p1, p2⟩ := hP x a b (by simpa using hs) hab
            have ha : ascM (putO s.1 x.f a) ∧ (∀ y ∈ putO s.1 x.f a, P y) ∧ (putO s.1 x.f a).length ≤ s.1.length + 1 := by
              cases a with
              | none => exact ⟨h1, h3, Nat.le_succ _⟩
              | some ts => exact ⟨putM_asc _ _ _ h1, fun y hy => (putM_mem _ _ _ y hy).elim (fun e => e ▸ p1 ts rfl) (h3 y), putM_len _ _ _⟩
            have hb : ascM (putO s.2 x.f b) ∧ (∀ y ∈ putO s.2 x.f b, P y) ∧ (putO s.2 x.f b).length ≤ s.2.length + 1 := by
              cases b with
              | none => exact ⟨h2, h4, Nat.le_succ _⟩
              | some ts => exact ⟨putM_asc _ _ _ h2, fun y hy => (putM_mem _ _ _ y hy).elim (fun e => e ▸ p2 ts rfl) (h4 y), putM_len _ _ _⟩
            obtain ⟨a1, b1, c1, d1, e1, f1⟩ := recsC_inv hP l _ _ t h ha.1 hb.1 ha.2.1 hb.2.1
            have q1 := ha.2.2
            have q2 := hb.2.2
            exact ⟨a1, b1, c1, d1, by simp only [List.length_cons]; simp only at e1; omega, by simp only [List.length_cons]; simp only at f1; omega⟩
end
end Go.Vir


namespace Go.Vir
open Go

theorem oneF_all {s : List UInt8} {l : List Int} (h : oneF s = some l) : allM l = true := by
  unfold oneF at h
  split at h
  · obtain rfl := Option.some.inj h
    rfl
  · split at h
    · split at h
      · rename_i hr
        obtain rfl := Option.some.inj h
        simp [allM, hr]
      · cases h
    · cases h
theorem someF_all {s : List UInt8} {l : List Int} (h : someF s = some l) : allM l = true := by
  unfold someF at h
  obtain ⟨m, _, hm⟩ := Option.bind_eq_some_iff.1 h
  split at hm
  · rename_i ha
    obtain rfl := Option.some.inj hm
    exact ha
  · cases hm
theorem skipD_sca {x : RecV} (h : skipD x = false) : scaR x.f = true := by
  unfold skipD at h
  simp only [Bool.not_eq_false', Bool.and_eq_true] at h
  exact h.2
theorem skipS_sca {x : RecV} (h : skipS x = false) : scaR x.f = true := by
  unfold skipS at h
  simp only [Bool.or_eq_false_iff] at h
  exact skipD_sca h.1
def OkP (x : MpV) : Prop := scaR x.f = true ∧ allM x.ts = true
theorem saysD_ok (x : RecV) (a b : Option (List Int)) (hs : skipD x = false) (h : saysD x = some (a, b)) : (∀ ts, a = some ts → OkP { f := x.f, ts := ts }) ∧ (∀ ts, b = some ts → OkP { f := x.f, ts := ts }) := by
  have hx := skipD_sca hs
  unfold saysD at h
  split at h
  · rename_i p q r h1 h2 h3
    have := oneF_all h1
    have := oneF_all h2
    have := oneF_all h3
    obtain ⟨rfl, rfl⟩ := Prod.mk.inj (Option.some.inj h)
    refine ⟨fun ts ht => ?_, fun ts ht => ?_⟩
    · split at ht
      · cases ht
      · obtain rfl := Option.some.inj ht
        exact ⟨hx, by assumption⟩
    · split at ht
      · split at ht
        · cases ht
        · obtain rfl := Option.some.inj ht
          exact ⟨hx, by assumption⟩
      · obtain rfl := Option.some.inj ht
        exact ⟨hx, by assumption⟩
  · cases h
theorem saysS_ok (x : RecV) (a b : Option (List Int)) (hs : skipS x = false) (h : saysS x = some (a, b)) : (∀ ts, a = some ts → OkP { f := x.f, ts := ts }) ∧ (∀ ts, b = some ts → OkP { f := x.f, ts := ts }) := by
  have hx := skipS_sca hs
  unfold saysS at h
  split at h
  · rename_i p q h1 h2
    obtain ⟨rfl, rfl⟩ := Prod.mk.inj (Option.some.inj h)
    exact ⟨fun ts ht => by obtain rfl := Option.some.inj ht; exact ⟨hx, someF_all h1⟩, fun ts ht => by obtain rfl := Option.some.inj ht; exact ⟨hx, someF_all h2⟩⟩
  · cases h
structure OkM (n : Nat) (l : List MpV) : Prop where
  asc : ascM l
  all : ∀ x ∈ l, OkP x
  len : l.length ≤ n
theorem OkM.nil : OkM 0 [] := ⟨List.Pairwise.nil, (fun x hx => by cases hx), Nat.le_refl _⟩
theorem OkM.maps {n : Nat} {l : List MpV} (h : OkM n l) (hn : n ≤ 600) : mapsB l = true := by
  unfold mapsB
  rw [mapsM_of l (-1) h.asc h.all (fun x hx => by
    have h1 := (h.all x hx).1
    unfold scaR at h1
    simp only [Bool.and_eq_true, decide_eq_true_eq] at h1
    omega), decide_eq_true (by have := h.len; omega)]
  rfl
theorem data_ok {t : List UInt8} {s u : List MpV × List MpV} {n : Nat} (h : dataC t s = .inl u) (h1 : OkM n s.1) (h2 : OkM n s.2) : OkM (n + 300) u.1 ∧ OkM (n + 300) u.2 := by
  unfold dataC fileC at h
  split at h
  · obtain ⟨a, b, c, d, e, f⟩ := recsC_inv (P := OkP) saysD_ok _ _ _ _ h h1.asc h2.asc h1.all h2.all
    have hl := (fileN_ok t).2
    have := h1.len
    have := h2.len
    exact ⟨⟨a, c, by omega⟩, ⟨b, d, by omega⟩⟩
  · cases h
theorem spec_ok {t : List UInt8} {s u : List MpV × List MpV} {n : Nat} (h : specC t s = .inl u) (h1 : OkM n s.1) (h2 : OkM n s.2) : OkM (n + 300) u.1 ∧ OkM (n + 300) u.2 := by
  unfold specC fileC at h
  split at h
  · obtain ⟨a, b, c, d, e, f⟩ := recsC_inv (P := OkP) saysS_ok _ _ _ _ h h1.asc h2.asc h1.all h2.all
    have hl := (fileN_ok t).2
    have := h1.len
    have := h2.len
    exact ⟨⟨a, c, by omega⟩, ⟨b, d, by omega⟩⟩
  · cases h
theorem core_right {t : List UInt8} {nm : List UInt8} (h : (readB t [noN, nm] 0 true).2.2 = 0) : rightT (buildT (readB t [noN, nm] 0 true).1) = true :=
  build_right fun x hx => by
    have := (read_map h).2.2.1 x hx
    simp at this
    omega

def nilC : CasV := { lo := [], ti := [], ca := { ix := [], bl := [] }, ig := { ix := [], bl := [] } }
theorem make_cases (a b c : List UInt8) :
    (∃ e, dataC a ([], []) = .inr e ∧ makeC a b c = (nilC, 1, e.1, e.2)) ∨
    (∃ s, dataC a ([], []) = .inl s ∧ ((∃ e, specC b s = .inr e ∧ makeC a b c = (nilC, 2, e.1, e.2)) ∨
      (∃ t, specC b s = .inl t ∧ (((readB c [noN, casedN] 0 true).2.2 ≠ 0 ∧ makeC a b c = (nilC, 3, (readB c [noN, casedN] 0 true).2.1, (readB c [noN, casedN] 0 true).2.2)) ∨
        ((readB c [noN, casedN] 0 true).2.2 = 0 ∧ (readB c [noN, ignN] 0 true).2.2 ≠ 0 ∧ makeC a b c = (nilC, 3, (readB c [noN, ignN] 0 true).2.1, (readB c [noN, ignN] 0 true).2.2)) ∨
        ((readB c [noN, casedN] 0 true).2.2 = 0 ∧ (readB c [noN, ignN] 0 true).2.2 = 0 ∧ makeC a b c = ({ lo := t.1, ti := t.2, ca := buildT (readB c [noN, casedN] 0 true).1, ig := buildT (readB c [noN, ignN] 0 true).1 }, 0, 0, 0)))))) := by
  unfold makeC
  cases h1 : dataC a ([], []) with
  | inr e => exact .inl ⟨e, rfl, rfl⟩
  | inl s =>
    refine .inr ⟨s, rfl, ?_⟩
    dsimp only
    cases h2 : specC b s with
    | inr e => exact .inl ⟨e, rfl, rfl⟩
    | inl t =>
      refine .inr ⟨t, rfl, ?_⟩
      by_cases h3 : (readB c [noN, casedN] 0 true).2.2 = 0
      · by_cases h4 : (readB c [noN, ignN] 0 true).2.2 = 0
        · exact .inr (.inr ⟨h3, h4, by simp only [h3, h4, ne_eq, not_true_eq_false, if_false]⟩)
        · exact .inr (.inl ⟨h3, h4, by simp only [h3, h4, ne_eq, not_true_eq_false, not_false_eq_true, if_false, if_true]; rfl⟩)
      · exact .inl ⟨h3, by simp only [h3, ne_eq, not_false_eq_true, if_true]; rfl⟩
theorem file_err {least : Nat} {skip : RecV → Bool} {says : RecV → Option (Option (List Int) × Option (List Int))} {t : List UInt8} {s : List MpV × List MpV} {e : Int × Int} (h : fileC least skip says t s = .inr e) : e.2 ≠ 0 := by
  have key : ∀ (l : List RecV) (met : List Int) (s : List MpV × List MpV), recsC least skip says l met s = .inr e → e.2 ≠ 0 := by
    intro l
    induction l with
    | nil => intro met s h; cases h
    | cons x l ih =>
      intro met s h
      unfold recsC at h
      split at h
      · exact ih _ _ h
      · split at h
        · obtain rfl := Sum.inr.inj h
          show (23 : Int) ≠ 0; decide
        · split at h
          · obtain rfl := Sum.inr.inj h
            show (21 : Int) ≠ 0; decide
          · split at h
            · obtain rfl := Sum.inr.inj h
              show (30 : Int) ≠ 0; decide
            · exact ih _ _ h
  unfold fileC at h
  split at h
  · exact key _ _ _ h
  · rename_i hne
    obtain rfl := Sum.inr.inj h
    exact hne
theorem make_right {a b c : List UInt8} (h : (makeC a b c).2.2.2 = 0) : rightC (makeC a b c).1 = true := by
  rcases make_cases a b c with ⟨e, h1, h2⟩ | ⟨s, h1, ⟨e, h2, h3⟩ | ⟨t, h2, ⟨h3, h4⟩ | ⟨h3, h4, h5⟩ | ⟨h3, h4, h5⟩⟩⟩
  · rw [h2] at h; exact absurd h (file_err h1)
  · rw [h3] at h; exact absurd h (file_err h2)
  · rw [h4] at h; exact absurd h h3
  · rw [h5] at h; exact absurd h h4
  · rw [h5]
    obtain ⟨p, q⟩ := data_ok h1 OkM.nil OkM.nil
    obtain ⟨p2, q2⟩ := spec_ok h2 p q
    unfold rightC
    rw [p2.maps (by omega), q2.maps (by omega), core_right h3, core_right h4]
    rfl
end Go.Vir


namespace Go.Vir
open Go

theorem file_nil {least : Nat} {skip : RecV → Bool} {says : RecV → Option (Option (List Int) × Option (List Int))} (s : List MpV × List MpV) : fileC least skip says [] s = .inl s := by
  have h : fileN [] = ([], 0, 0) := by decide
  unfold fileC
  rw [h]
  rfl
theorem data_nil (s : List MpV × List MpV) : dataC [] s = .inl s := file_nil s
theorem three_law {c : CasV} {r : Int} (h : chkC c r = 0) : allM (becM c.lo r) = true ∧ allM (becM c.ti r) = true := by
  unfold chkC at h
  split at h
  · rename_i hr
    split at h
    · rename_i hs
      unfold rightC at hr
      simp only [Bool.and_eq_true] at hr
      exact ⟨bec_all hr.1 hs, bec_all hr.2.1 hs⟩
    · cases h
  · cases h
end Go.Vir


namespace Go.Vir
open Go

theorem look_head {x : MpV} {l : List MpV} : lookM (x :: l) x.f = some x.ts := by
  rw [look_cons, if_pos rfl]
theorem asc_ext : ∀ {l m : List MpV}, ascM l → ascM m → (∀ q, lookM l q = lookM m q) → l = m
  | [], [], _, _, _ => rfl
  | [], y :: m, _, _, h => by
    have := h y.f
    rw [look_head] at this
    cases this
  | x :: l, [], _, _, h => by
    have := h x.f
    rw [look_head] at this
    cases this
  | x :: l, y :: m, hl, hm, h => by
    obtain ⟨a1, a2⟩ := List.pairwise_cons.1 hl
    obtain ⟨b1, b2⟩ := List.pairwise_cons.1 hm
    have hxy : x.f = y.f := by
      rcases Int.lt_trichotomy x.f y.f with e | e | e
      · have h1 := h x.f
        rw [look_head, look_none (fun z hz => ?_)] at h1
        · cases h1
        · rcases List.mem_cons.1 hz with rfl | hz
          · omega
          · have := b1 z hz; omega
      · exact e
      · have h1 := h y.f
        rw [look_head, look_none (fun z hz => ?_)] at h1
        · cases h1
        · rcases List.mem_cons.1 hz with rfl | hz
          · omega
          · have := a1 z hz; omega
    have hto : x.ts = y.ts := by
      have h1 := h x.f
      rw [look_head, hxy, look_head] at h1
      exact Option.some.inj h1
    have e : x = y := by
      cases x; cases y
      simp only at hxy hto
      rw [hxy, hto]
    subst e
    refine congrArg (x :: ·) (asc_ext a2 b2 (fun q => ?_))
    have h1 := h q
    rw [look_cons, look_cons] at h1
    by_cases hq : x.f = q
    · subst hq
      rw [look_none (fun z hz => by have := a1 z hz; omega), look_none (fun z hz => by have := b1 z hz; omega)]
    · rw [if_neg hq, if_neg hq] at h1
      exact h1
theorem asc_perm {l m : List MpV} (hl : ascM l) (hm : ascM m) (h : ∀ x, x ∈ l ↔ x ∈ m) : l = m := by
  have one : ∀ {l : List MpV}, ascM l → ∀ x ∈ l, lookM l x.f = some x.ts := by
    intro l ha x hx
    induction l with
    | nil => cases hx
    | cons y l ih =>
      obtain ⟨a1, a2⟩ := List.pairwise_cons.1 ha
      rw [look_cons]
      rcases List.mem_cons.1 hx with rfl | hx
      · rw [if_pos rfl]
      · have := a1 x hx
        rw [if_neg (by omega)]
        exact ih a2 hx
  refine asc_ext hl hm (fun q => ?_)
  cases h1 : lookM l q with
  | some ts =>
    obtain ⟨x, hx, rfl, rfl⟩ := look_mem h1
    exact (one hm x ((h x).1 hx)).symm
  | none =>
    cases h2 : lookM m q with
    | none => rfl
    | some ts =>
      obtain ⟨x, hx, rfl, rfl⟩ := look_mem h2
      rw [one hl x ((h x).2 hx)] at h1
      cases h1
end Go.Vir


namespace Go.Vir
open Go

abbrev KM := List (Int × List Int)
def updK (k : Int) (v : List Int) : KM → KM
  | [] => [(k, v)]
  | x :: t => if x.1 = k then (k, v) :: t else x :: updK k v t
def valK (k : Int) : KM → Option (List Int)
  | [] => none
  | x :: t => if x.1 = k then some x.2 else valK k t
theorem valK_upd (k : Int) (v : List Int) (q : Int) : ∀ km : KM, valK q (updK k v km) = if q = k then some v else valK q km
  | [] => by
    by_cases h : q = k
    · simp [updK, valK, h]
    · simp [updK, valK, h, Ne.symm h]
  | x :: t => by
    unfold updK
    by_cases hk : x.1 = k
    · rw [if_pos hk]
      unfold valK
      by_cases h : q = k
      · simp [h]
      · rw [if_neg (fun e => h e.symm), if_neg h, if_neg (fun e => h (e.symm.trans hk))]
    · rw [if_neg hk]
      unfold valK
      rw [valK_upd k v q t]
      by_cases h2 : x.1 = q
      · rw [if_pos h2, if_pos h2, if_neg (fun e => hk (h2.trans e))]
      · rw [if_neg h2, if_neg h2]
theorem keys_upd (k : Int) (v : List Int) : ∀ (km : KM) (q : Int), q ∈ (updK k v km).map (·.1) ↔ q = k ∨ q ∈ km.map (·.1)
  | [], q => by simp [updK]
  | x :: t, q => by
    unfold updK
    by_cases hk : x.1 = k
    · rw [if_pos hk]; simp [hk]
    · rw [if_neg hk, List.map_cons, List.mem_cons, keys_upd k v t q, List.map_cons, List.mem_cons]
      constructor
      · rintro (h | h | h)
        · exact .inr (.inl h)
        · exact .inl h
        · exact .inr (.inr h)
      · rintro (h | h | h)
        · exact .inr (.inl h)
        · exact .inl h
        · exact .inr (.inr h)
theorem nodup_upd (k : Int) (v : List Int) : ∀ km : KM, (km.map (·.1)).Nodup → ((updK k v km).map (·.1)).Nodup
  | [], _ => by simp [updK]
  | x :: t, h => by
    rw [List.map_cons, List.nodup_cons] at h
    unfold updK
    by_cases hk : x.1 = k
    · rw [if_pos hk, List.map_cons, List.nodup_cons]
      exact ⟨hk ▸ h.1, h.2⟩
    · rw [if_neg hk, List.map_cons, List.nodup_cons]
      refine ⟨fun hm => ?_, nodup_upd k v t h.2⟩
      rcases (keys_upd k v t x.1).1 hm with e | e
      · exact hk e
      · exact h.1 e
theorem valK_mem : ∀ {km : KM} {k : Int} {v : List Int}, (km.map (·.1)).Nodup → (valK k km = some v ↔ (k, v) ∈ km)
  | [], k, v, _ => by simp [valK]
  | x :: t, k, v, h => by
    rw [List.map_cons, List.nodup_cons] at h
    unfold valK
    by_cases hk : x.1 = k
    · rw [if_pos hk, List.mem_cons]
      constructor
      · intro e
        exact .inl (by rw [← Option.some.inj e, ← hk])
      · rintro (e | e)
        · rw [← e]
        · exact absurd (List.mem_map.2 ⟨_, e, rfl⟩) (hk ▸ h.1)
    · rw [if_neg hk, valK_mem h.2, List.mem_cons]
      constructor
      · exact .inr
      · rintro (e | e)
        · exact absurd (by rw [← e]) hk
        · exact e
structure KmL (km : KM) (l : List MpV) : Prop where
  nd : (km.map (·.1)).Nodup
  asc : ascM l
  say : ∀ q, lookM l q = valK q km
theorem KmL.nil : KmL [] [] := ⟨List.nodup_nil, List.Pairwise.nil, fun _ => rfl⟩
theorem KmL.put {km : KM} {l : List MpV} (h : KmL km l) (r : Int) (ts : List Int) : KmL (updK r ts km) (putM l r ts) :=
  ⟨nodup_upd r ts km h.nd, putM_asc l r ts h.asc, fun q => by rw [look_putM l r ts h.asc, valK_upd, h.say]⟩
end Go.Vir


namespace Go.Vir
open Go

def cutB (bl : List (List Int)) : List (List Int) := (bl.take 30).map fun b => b.take 260
def cutT (t : TrV) : TrV := { ix := t.ix.take 4360, bl := cutB t.bl }
theorem cutB_succ {bl : List (List Int)} {k : Nat} (h : k < bl.length) (h30 : k < 30) : cutB (bl.take (k + 1)) = cutB (bl.take k) ++ [bl[k].take 260] := by
  unfold cutB
  rw [List.take_take, List.take_take, Nat.min_eq_right (by omega), Nat.min_eq_right (by omega), List.take_succ_eq_append_getElem h, List.map_append]
  rfl
theorem cutB_len (bl : List (List Int)) : (cutB bl).length ≤ 30 ∧ ∀ b ∈ cutB bl, b.length ≤ 260 := by
  unfold cutB
  refine ⟨by simp; omega, fun x hx => ?_⟩
  obtain ⟨y, _, rfl⟩ := List.mem_map.1 hx
  simp; omega
theorem cutT_len (t : TrV) : (cutT t).ix.length ≤ 4360 ∧ (cutT t).bl.length ≤ 30 ∧ ∀ b ∈ (cutT t).bl, b.length ≤ 260 :=
  ⟨by unfold cutT; simp; omega, cutB_len t.bl⟩
end Go.Vir


namespace Go.Vir
open Go

def fewM (l : List MpV) : List MpV := (l.take 40).map fun x => { f := x.f, ts := x.ts.take 5 }
theorem fewM_succ {l : List MpV} {k : Nat} (h : k < l.length) (h40 : k < 40) : fewM (l.take (k + 1)) = fewM (l.take k) ++ [{ f := l[k].f, ts := l[k].ts.take 5 }] := by
  unfold fewM
  rw [List.take_take, List.take_take, Nat.min_eq_right (by omega), Nat.min_eq_right (by omega), List.take_succ_eq_append_getElem h, List.map_append]
  rfl
theorem fewM_len (l : List MpV) : (fewM l).length ≤ 40 ∧ ∀ x ∈ fewM l, x.ts.length ≤ 5 := by
  unfold fewM
  refine ⟨by simp; omega, fun x hx => ?_⟩
  obtain ⟨y, _, rfl⟩ := List.mem_map.1 hx
  simp; omega
def tabC (c : CasV) : CasV := { lo := fewM c.lo, ti := fewM c.ti, ca := cutT c.ca, ig := cutT c.ig }

def sfA : List UInt8 := [48, 48, 52, 49, 59, 65, 59, 76, 117, 59, 48, 59, 76, 59, 59, 59, 59, 59, 78, 59, 59, 59, 59, 48, 48, 54, 49, 59, 10, 48, 48, 54, 49, 59, 97, 59, 76, 108, 59, 48, 59, 76, 59, 59, 59, 59, 59, 78, 59, 59, 59, 48, 48, 52, 49, 59, 59, 48, 48, 52, 49]
def sfB : List UInt8 := [48, 48, 68, 70, 59, 48, 48, 68, 70, 59, 48, 48, 53, 51, 32, 48, 48, 55, 51, 59, 48, 48, 53, 51, 32, 48, 48, 53, 51, 59]
def sfC : List UInt8 := [48, 48, 52, 49, 59, 67, 97, 115, 101, 100, 10, 48, 48, 52, 49, 46, 46, 48, 48, 52, 50, 59, 67, 97, 115, 101, 95, 73, 103, 110, 111, 114, 97, 98, 108, 101]
def sfD : List UInt8 := [10, 48, 48, 68, 70, 59, 88, 59, 48, 48, 53, 51, 59, 48, 48, 53, 51, 59]
def sfE : List UInt8 := [120]
def sfLo : List MpV := [{ f := 65, ts := [97] }, { f := 223, ts := [223] }]
def sfTi : List MpV := [{ f := 97, ts := [65] }, { f := 223, ts := [83, 115] }]
def sfCa : List Rg := [{ f := 65, t := 65, v := 1 }]
def sfIg : List Rg := [{ f := 65, t := 66, v := 1 }]
def sfCs : CasV := { lo := sfLo, ti := sfTi, ca := buildT sfCa, ig := buildT sfIg }
theorem sf_data : dataC sfA ([], []) = .inl ([{ f := 65, ts := [97] }], [{ f := 97, ts := [65] }]) := by decide +kernel
theorem sf_spec : specC sfB ([{ f := 65, ts := [97] }], [{ f := 97, ts := [65] }]) = .inl (sfLo, sfTi) := by decide +kernel
theorem sf_core1 : readB sfC [noN, casedN] 0 true = (sfCa, 0, 0) := by decide +kernel
theorem sf_core2 : readB sfC [noN, ignN] 0 true = (sfIg, 0, 0) := by decide +kernel
theorem sf_make : makeC sfA sfB sfC = (sfCs, 0, 0, 0) := by
  rcases make_cases sfA sfB sfC with ⟨e, h1, _⟩ | ⟨s, h1, ⟨e, h2, _⟩ | ⟨t, h2, ⟨h3, _⟩ | ⟨_, h4, _⟩ | ⟨_, _, h5⟩⟩⟩
  · rw [sf_data] at h1; cases h1
  · rw [sf_data] at h1
    obtain rfl := Sum.inl.inj h1
    rw [sf_spec] at h2; cases h2
  · rw [sf_core1] at h3; exact absurd rfl h3
  · rw [sf_core2] at h4; exact absurd rfl h4
  · rw [sf_data] at h1
    obtain rfl := Sum.inl.inj h1
    rw [sf_spec] at h2
    obtain rfl := Sum.inl.inj h2
    rw [h5, sf_core1, sf_core2]
    rfl
theorem sf_spec2 : specC sfD ([], []) = .inr (2, 21) := by decide +kernel
theorem sf_make2 : makeC [] sfD sfE = (nilC, 2, 2, 21) := by
  rcases make_cases [] sfD sfE with ⟨e, h1, _⟩ | ⟨s, h1, ⟨e, h2, h3⟩ | ⟨t, h2, _⟩⟩
  · rw [data_nil] at h1; cases h1
  · rw [data_nil] at h1
    obtain rfl := Sum.inl.inj h1
    rw [sf_spec2] at h2
    obtain rfl := Sum.inr.inj h2
    exact h3
  · rw [data_nil] at h1
    obtain rfl := Sum.inl.inj h1
    rw [sf_spec2] at h2; cases h2
theorem sf_right : rightC sfCs = true := by
  have h := make_right (a := sfA) (b := sfB) (c := sfC) (by rw [sf_make])
  rw [sf_make] at h
  exact h
theorem sf_chk (r : Int) (h : scaR r = true) : chkC sfCs r = 0 := by unfold chkC; rw [if_pos sf_right, if_pos h]
theorem sf_low : lowC sfCs 65 = ([97], 0) := by unfold lowC; rw [if_pos (sf_chk 65 (by decide))]; rfl
theorem sf_tit1 : titC sfCs 223 = ([83, 115], 0) := by unfold titC; rw [if_pos (sf_chk 223 (by decide))]; rfl
theorem sf_tit2 : titC sfCs 97 = ([65], 0) := by unfold titC; rw [if_pos (sf_chk 97 (by decide))]; rfl
theorem sf_kind : kindC sfCs 66 = (false, true, 0) := by
  have h1 : valT sfCs.ca 66 = 0 := (build_val (l := sfCa) (by decide) (by decide) (by decide)).trans (by decide)
  have h2 : valT sfCs.ig 66 = 1 := (build_val (l := sfIg) (by decide) (by decide) (by decide)).trans (by decide)
  unfold kindC
  rw [if_pos (sf_chk 66 (by decide)), h1, h2]
  rfl
end Go.Vir


namespace Go.Vir
open Go

theorem low_bad {c : CasV} {r : Int} (h : chkC c r ≠ 0) : lowC c r = ([], chkC c r) ∧ titC c r = ([], chkC c r) ∧ kindC c r = (false, false, chkC c r) := by
  unfold lowC titC kindC
  rw [if_neg h, if_neg h, if_neg h]
  exact ⟨rfl, rfl, rfl⟩
end Go.Vir


namespace Go.Vir
open Go Go.RowKit Go.Proofs
attribute [local go_sem] Oper.semAt_some

structure Intss (w : World) (B : Nat) (A : Option Addr) (n : Nat) (bs : List (List Int)) : Prop where
  len : bs.length = n
  at_ : 0 < n → ∃ b o, A = some ⟨b, o, none⟩ ∧ b < B ∧ ∀ (j : Nat) (h : j < bs.length), ∃ A' n' c', w.cell? ⟨b, o + j, none⟩ = some (.slice A' n' c') ∧ Ints w B A' n' bs[j] ∧ n' ≤ c'
structure Tri (w : World) (B : Nat) (Ai : Option Addr) (ni : Nat) (Ab : Option Addr) (nb : Nat) (T : TrV) : Prop where
  ix : Ints w B Ai ni T.ix
  bl : Intss w B Ab nb T.bl
section
variable {w w' : World} {B B' n ni nb : Nat} {A Ai Ab : Option Addr}
theorem Intss.below {bs : List (List Int)} (h : Intss w B A n bs) (hb : Below B w w') : Intss w' B A n bs :=
  ⟨h.len, fun hn => let ⟨b, o, e, hlt, hc⟩ := h.at_ hn; ⟨b, o, e, hlt, fun j hj => let ⟨A', n', c', h1, h2, h3⟩ := hc j hj; ⟨A', n', c', (cellOf hb hlt).trans h1, h2.below hb, h3⟩⟩⟩
theorem Intss.more {bs : List (List Int)} (h : Intss w B A n bs) (hB : B ≤ B') : Intss w B' A n bs :=
  ⟨h.len, fun hn => let ⟨b, o, e, hlt, hc⟩ := h.at_ hn; ⟨b, o, e, by omega, fun j hj => let ⟨A', n', c', h1, h2, h3⟩ := hc j hj; ⟨A', n', c', h1, h2.more hB, h3⟩⟩⟩
theorem Intss.nil (w : World) (B : Nat) (A : Option Addr) : Intss w B A 0 [] := ⟨rfl, fun h => absurd h (by omega)⟩
theorem Tri.below {T : TrV} (h : Tri w B Ai ni Ab nb T) (hb : Below B w w') : Tri w' B Ai ni Ab nb T := ⟨h.ix.below hb, h.bl.below hb⟩
theorem Tri.more {T : TrV} (h : Tri w B Ai ni Ab nb T) (hB : B ≤ B') : Tri w B' Ai ni Ab nb T := ⟨h.ix.more hB, h.bl.more hB⟩
end

def SaysL (P : Program) (g : Nat) (lb : Array Value) (p : List Int → Bool) (bs : List (List Int)) (w : World) : Prop :=
  ∀ b ∈ bs, ∀ A n c W, Below w.heap.size w W → Ints W W.heap.size A n b → Calls P g (#[.slice A n c] ++ lb) W fun e w' => e = .returned (.bool (p b)) ∧ Below W.heap.size W w'
def encZ (x : Int) : Value := .int .i64 x

set_option maxHeartbeats 1000000 in
theorem indexFunc_int {g : Nat} {lb : Array Value} {p : Int → Bool} (A : Option Addr) (n c : Nat) (xs : List Int) (w : World)
    (eg : ∀ args w, (callFunc g args).run Tryz.prog w = .ok (.enter g args) w) (hx : Ints w w.heap.size A n xs) (hp : Says Tryz.prog g lb encZ p w) (hn : n ≤ 1000000) :
    Calls Tryz.prog 98 #[.slice A n c, .func (.func g) #[] lb] w fun e w' => e = .returned (.int .i64 (firstB p xs)) ∧ Below w.heap.size w w' := by
  go_enter Tryz.func98, Tryz.ntmps98
  go_wp2
  have hlen := hx.len
  go_loopw [8] (fun i wr => ∃ k : Nat, k ≤ n ∧ i = .int .i64 k ∧ (∀ (j : Nat) (h : j < k) (h2 : j < xs.length), p xs[j] = false) ∧ Below w.heap.size w wr) (fun i _ => n - (RowKit.intOf i).toNat)
  case atStart => exact ⟨0, Nat.zero_le _, rfl, fun j h => absurd h (by omega), Below.refl _ _⟩
  case round =>
    obtain ⟨k, hk, rfl, hno, hb⟩ := hrel
    rcases Nat.lt_or_ge k n with hlt | hge
    · obtain ⟨zb, zo, rfl, hzb, hzc⟩ := hx.at_ (by omega)
      have z1 := (cellOf hb hzb).trans (hzc k (by omega))
      have hc : Calls Tryz.prog g (#[encZ xs[k]] ++ lb) wr _ := hp xs[k] wr hb
      clear hzc
      generalize hxk : xs[k] = x at *
      unfold encZ at hc
      go_wp2
      refine hc.mono ?_
      rintro e w1 ⟨rfl, hb1⟩
      rcases hpk : p x with _ | _
      · have hno' : ∀ (j : Nat) (h : j < k + 1) (h2 : j < xs.length), p xs[j] = false := fun j h h2 => by
          rcases Nat.lt_or_ge j k with h3 | h3
          · exact hno j h3 h2
          · obtain rfl : j = k := by omega
            rw [hxk]; exact hpk
        have hb2 := hb.trans (hb1.mono hb.size)
        clear hno hb hb1 hc hpk hxk
        go_wp2
        go_roundw
        case rel => exact ⟨k + 1, by omega, by go_num, hno', hb2⟩
        case measure => simp [RowKit.intOf]; omega
      · have hf : firstB p xs = k := firstB_hit (by omega) (by rw [hxk]; exact hpk) (fun j h => hno j h (by omega))
        have Hf := Lib.hid hf
        clear hf hpk hxk
        go_wp2
        go_ret
        exact ⟨ret_int Hf.out.symm, hb.trans (hb1.mono hb.size)⟩
    · have hf : firstB p xs = -1 := firstB_none (fun j h => hno j (by omega) h)
      have Hf := Lib.hid hf
      clear hf
      go_wp2
      go_ret
      exact ⟨ret_int Hf.out.symm, hb⟩
theorem containsFunc_int {g : Nat} {lb : Array Value} {p : Int → Bool} (A : Option Addr) (n c : Nat) (xs : List Int) (w : World)
    (eg : ∀ args w, (callFunc g args).run Tryz.prog w = .ok (.enter g args) w) (hx : Ints w w.heap.size A n xs) (hp : Says Tryz.prog g lb encZ p w) (hn : n ≤ 1000000) :
    Calls Tryz.prog 60 #[.slice A n c, .func (.func g) #[] lb] w fun e w' => e = .returned (.bool (xs.any p)) ∧ Below w.heap.size w w' := by
  have hc := indexFunc_int A n c xs w eg hx hp hn
  rw [← firstB_ge p xs]
  clear eg hx hp
  go_enter Tryz.func60, Tryz.ntmps60
  go_wp2_with (go_at_call 98; refine hc.mono ?_; rintro e w1 ⟨rfl, hb1⟩)
  go_ret
  exact ⟨rfl, hb1⟩

set_option maxHeartbeats 1000000 in
theorem indexFunc_ints {g : Nat} {lb : Array Value} {p : List Int → Bool} (A : Option Addr) (n c : Nat) (bs : List (List Int)) (w : World)
    (eg : ∀ args w, (callFunc g args).run Tryz.prog w = .ok (.enter g args) w) (hx : Intss w w.heap.size A n bs) (hp : SaysL Tryz.prog g lb p bs w) (hn : n ≤ 1000000) :
    Calls Tryz.prog 99 #[.slice A n c, .func (.func g) #[] lb] w fun e w' => e = .returned (.int .i64 (firstB p bs)) ∧ Below w.heap.size w w' := by
  go_enter Tryz.func99, Tryz.ntmps99
  go_wp2
  have hlen := hx.len
  go_loopw [8] (fun i wr => ∃ k : Nat, k ≤ n ∧ i = .int .i64 k ∧ (∀ (j : Nat) (h : j < k) (h2 : j < bs.length), p bs[j] = false) ∧ Below w.heap.size w wr) (fun i _ => n - (RowKit.intOf i).toNat)
  case atStart => exact ⟨0, Nat.zero_le _, rfl, fun j h => absurd h (by omega), Below.refl _ _⟩
  case round =>
    obtain ⟨k, hk, rfl, hno, hb⟩ := hrel
    rcases Nat.lt_or_ge k n with hlt | hge
    · obtain ⟨zb, zo, rfl, hzb, hzc⟩ := hx.at_ (by omega)
      obtain ⟨A', n', c', z0, hz, _⟩ := hzc k (by omega)
      have z1 := (cellOf hb hzb).trans z0
      have hc : Calls Tryz.prog g (#[.slice A' n' c'] ++ lb) wr _ := hp bs[k] (List.getElem_mem _) A' n' c' wr hb ((hz.below hb).more hb.size)
      clear hzc hz z0
      generalize hxk : bs[k] = x at *
      go_wp2
      refine hc.mono ?_
      rintro e w1 ⟨rfl, hb1⟩
      rcases hpk : p x with _ | _
      · have hno' : ∀ (j : Nat) (h : j < k + 1) (h2 : j < bs.length), p bs[j] = false := fun j h h2 => by
          rcases Nat.lt_or_ge j k with h3 | h3
          · exact hno j h3 h2
          · obtain rfl : j = k := by omega
            rw [hxk]; exact hpk
        have hb2 := hb.trans (hb1.mono hb.size)
        clear hno hb hb1 hc hpk hxk
        go_wp2
        go_roundw
        case rel => exact ⟨k + 1, by omega, by go_num, hno', hb2⟩
        case measure => simp [RowKit.intOf]; omega
      · have hf : firstB p bs = k := firstB_hit (by omega) (by rw [hxk]; exact hpk) (fun j h => hno j h (by omega))
        have Hf := Lib.hid hf
        clear hf hpk hxk
        go_wp2
        go_ret
        exact ⟨ret_int Hf.out.symm, hb.trans (hb1.mono hb.size)⟩
    · have hf : firstB p bs = -1 := firstB_none (fun j h => hno j (by omega) h)
      have Hf := Lib.hid hf
      clear hf
      go_wp2
      go_ret
      exact ⟨ret_int Hf.out.symm, hb⟩
theorem containsFunc_ints {g : Nat} {lb : Array Value} {p : List Int → Bool} (A : Option Addr) (n c : Nat) (bs : List (List Int)) (w : World)
    (eg : ∀ args w, (callFunc g args).run Tryz.prog w = .ok (.enter g args) w) (hx : Intss w w.heap.size A n bs) (hp : SaysL Tryz.prog g lb p bs w) (hn : n ≤ 1000000) :
    Calls Tryz.prog 61 #[.slice A n c, .func (.func g) #[] lb] w fun e w' => e = .returned (.bool (bs.any p)) ∧ Below w.heap.size w w' := by
  have hc := indexFunc_ints A n c bs w eg hx hp hn
  rw [← firstB_ge p bs]
  clear eg hx hp
  go_enter Tryz.func61, Tryz.ntmps61
  go_wp2_with (go_at_call 99; refine hc.mono ?_; rintro e w1 ⟨rfl, hb1⟩)
  go_ret
  exact ⟨rfl, hb1⟩

def outV (v : Int) : Bool := decide (v < 0) || decide (v > 31)
def outN (nb : Nat) (n : Int) : Bool := decide (n < 0) || decide (n ≥ (nb : Int))
theorem outV_all (b : List Int) : (!(b.any outV)) = b.all fun v => decide (0 ≤ v) && decide (v ≤ 31) := by
  rw [List.not_any_eq_all_not]
  congr 1
  funext v
  unfold outV
  rw [Bool.eq_iff_iff]
  simp only [Bool.not_eq_true', Bool.or_eq_false_iff, decide_eq_false_iff_not, Bool.and_eq_true, decide_eq_true_eq]
  omega
theorem outN_all (nb : Nat) (l : List Int) : (!(l.any (outN nb))) = l.all fun n => decide (0 ≤ n) && decide (n < nb) := by
  rw [List.not_any_eq_all_not]
  congr 1
  funext v
  unfold outN
  rw [Bool.eq_iff_iff]
  simp only [Bool.not_eq_true', Bool.or_eq_false_iff, decide_eq_false_iff_not, Bool.and_eq_true, decide_eq_true_eq]
  omega
theorem isBlock1 (v : Int) (w : World) : Calls Tryz.prog 100 #[.int .i64 v] w fun e w' => e = .returned (.bool (outV v)) ∧ Below w.heap.size w w' := by
  unfold outV
  rcases h1 : decide (v < 0) with _ | _
  · rcases h2 : decide (v > 31) with _ | _
    · go_enter Tryz.func100, Tryz.ntmps100
      go_wp2
      go_ret
      exact ⟨rfl, Below.refl _ _⟩
    · go_enter Tryz.func100, Tryz.ntmps100
      go_wp2
      go_ret
      exact ⟨rfl, Below.refl _ _⟩
  · go_enter Tryz.func100, Tryz.ntmps100
    go_wp2
    go_ret
    exact ⟨by simp, Below.refl _ _⟩
theorem trie_isBlock (A : Option Addr) (n c : Nat) (b : List Int) (w : World) (hx : Ints w w.heap.size A n b) (hn : n ≤ 1000000) :
    Calls Tryz.prog 63 #[.slice A n c] w fun e w' => e = .returned (.bool (blkB b)) ∧ Below w.heap.size w w' := by
  have hc := containsFunc_int A n c b w (g := 100) (lb := #[]) (p := outV) (enters_of Tryz.func100 (by kernel_rfl) rfl) hx (fun x W _ => isBlock1 x W) hn
  unfold blkB
  rw [← outV_all, hx.len]
  generalize b.any outV = o at *
  clear hx
  by_cases h : n = 256
  · subst h
    go_enter Tryz.func63, Tryz.ntmps63
    go_wp2_with fail
    refine hc.mono ?_
    rintro e w1 ⟨rfl, hb1⟩
    go_wp2_with fail
    go_ret
    exact ⟨by simp, hb1⟩
  · have e1 : ((n : Int) == 256) = false := by rw [beq_eq_false_iff_ne]; omega
    have e2 : decide (n = 256) = false := decide_eq_false h
    rw [e2]
    clear hc e2
    go_enter Tryz.func63, Tryz.ntmps63
    go_wp2_with fail
    go_ret
    exact ⟨rfl, Below.refl _ _⟩
theorem trie_Right2 (A : Option Addr) (n c : Nat) (b : List Int) (w : World) (hx : Ints w w.heap.size A n b) (hn : n ≤ 1000000) :
    Calls Tryz.prog 62 #[.slice A n c] w fun e w' => e = .returned (.bool (!blkB b)) ∧ Below w.heap.size w w' := by
  have hc := trie_isBlock A n c b w hx hn
  clear hx
  go_enter Tryz.func62, Tryz.ntmps62
  go_wp2_with fail
  refine hc.mono ?_
  rintro e w1 ⟨rfl, hb1⟩
  go_wp2_with fail
  go_ret
  exact ⟨rfl, hb1⟩
theorem trie_Right1 (v : Int) (bx : Nat) (Ab : Option Addr) (nb cb : Nat) (w : World) (h1 : w.cell? ⟨bx, 1, none⟩ = some (.slice Ab nb cb)) :
    Calls Tryz.prog 59 #[.int .i64 v, .pointer (some ⟨bx, 0, none⟩)] w fun e w' => e = .returned (.bool (outN nb v)) ∧ Below w.heap.size w w' := by
  unfold outN
  rcases h2 : decide (v < 0) with _ | _
  · rcases h3 : decide (v ≥ (nb : Int)) with _ | _
    · go_enter Tryz.func59, Tryz.ntmps59
      go_wp2
      go_ret
      exact ⟨rfl, Below.refl _ _⟩
    · go_enter Tryz.func59, Tryz.ntmps59
      go_wp2
      go_ret
      exact ⟨rfl, Below.refl _ _⟩
  · go_enter Tryz.func59, Tryz.ntmps59
    go_wp2
    go_ret
    exact ⟨by simp, Below.refl _ _⟩

set_option maxHeartbeats 2000000 in
theorem trie_Right (Ai : Option Addr) (ni ci : Nat) (Ab : Option Addr) (nb cb : Nat) (T : TrV) (w : World) (hT : Tri w w.heap.size Ai ni Ab nb T) (hi : ni ≤ 1000000) (hnb : nb ≤ 1000000) (hbs : ∀ b ∈ T.bl, b.length ≤ 1000000) :
    Calls Tryz.prog 30 #[.agg #[.slice Ai ni ci, .slice Ab nb cb]] w fun e w' => e = .returned (.bool (rightT T)) ∧ Below w.heap.size w w' := by
  have hr : rightT T = (decide (ni = 4352) && (!(T.ix.any (outN nb)) && !(T.bl.any fun b => !blkB b))) := by
    unfold rightT
    rw [hT.ix.len, hT.bl.len, outN_all, List.not_any_eq_all_not]
    simp
  have hb1 : Below w.heap.size w (w.alloc (.cells #[.slice Ai ni ci, .slice Ab nb cb] 27)) := by go_grown
  have hc1 := containsFunc_int Ai ni ci T.ix (w.alloc (.cells #[.slice Ai ni ci, .slice Ab nb cb] 27)) (g := 59) (lb := #[.pointer (some ⟨w.heap.size, 0, none⟩)]) (p := outN nb) (enters_of Tryz.func59 (by kernel_rfl) rfl)
    ((hT.ix.below hb1).more hb1.size) (fun x W hW => trie_Right1 x w.heap.size Ab nb cb W ((cellOf hW (by simp)).trans (cell_blk (heap_new rfl) 1))) hi
  have hc2 := fun (W : World) (hW : Below w.heap.size w W) => containsFunc_ints Ab nb cb T.bl W (g := 62) (lb := #[]) (p := fun b => !blkB b) (enters_of Tryz.func62 (by kernel_rfl) rfl)
    ((hT.bl.below hW).more hW.size) (fun b hb A n c W' _ hz => trie_Right2 A n c b W' hz (by rw [← hz.len]; exact hbs b hb)) hnb
  rw [hr]
  generalize T.ix.any (outN nb) = o1 at *
  generalize (T.bl.any fun b => !blkB b) = o2 at *
  have Hc1 := Lib.hid hc1
  have Hc2 := Lib.hid hc2
  have Hb1 := Lib.hid hb1
  clear hc1 hc2 hr hT hbs hb1
  by_cases h : ni = 4352
  · subst h
    have hbx : ∀ w1, Below (w.alloc (.cells #[.slice Ai 4352 ci, .slice Ab nb cb] 27)).heap.size (w.alloc (.cells #[.slice Ai 4352 ci, .slice Ab nb cb] 27)) w1 → w1.cell? ⟨w.heap.size, 1, none⟩ = some (.slice Ab nb cb) := fun w1 hb => (cellOf hb (by simp)).trans (cell_blk (heap_new rfl) 1)
    have Hbx := Lib.hid hbx
    clear hbx
    go_enter Tryz.func30, Tryz.ntmps30
    go_wp2_with fail
    refine Hc1.out.mono ?_
    rintro e w1 ⟨rfl, hb2⟩
    have hbw1 := Hb1.out.trans (hb2.mono Hb1.out.size)
    have hx1 := Hbx.out w1 hb2
    rcases o1 with _ | _
    · go_wp2_with fail
      refine (Hc2.out w1 hbw1).mono ?_
      rintro e w2 ⟨rfl, hb3⟩
      go_wp2_with fail
      go_ret
      exact ⟨by simp, hbw1.trans (hb3.mono hbw1.size)⟩
    · go_wp2_with fail
      go_ret
      exact ⟨by simp, hbw1⟩
  · have e1 : ((ni : Int) == 4352) = false := by rw [beq_eq_false_iff_ne]; omega
    have e2 : decide (ni = 4352) = false := decide_eq_false h
    rw [e2]
    clear e2
    go_enter Tryz.func30, Tryz.ntmps30
    go_wp2_with fail
    go_ret
    exact ⟨rfl, by go_grown⟩
end Go.Vir


namespace Go.Vir
open Go Go.RowKit Go.Proofs
attribute [local go_sem] Oper.semAt_some

theorem scalar_Right (r : Int) (w : World) : Calls Tryz.prog 67 #[.int .i64 r] w fun e w' => e = .returned (.bool (scaR r)) ∧ Below w.heap.size w w' := by
  unfold scaR
  rcases h1 : decide (0 ≤ r) with _ | _
  · have e1 : decide (r ≥ 0) = false := h1
    go_enter Tryz.func67, Tryz.ntmps67
    go_wp2
    go_ret
    exact ⟨by simp, Below.refl _ _⟩
  · have e1 : decide (r ≥ 0) = true := h1
    rcases h2 : decide (r ≤ 1114111) with _ | _
    · go_enter Tryz.func67, Tryz.ntmps67
      go_wp2
      go_ret
      exact ⟨by simp, Below.refl _ _⟩
    · rcases h3 : decide (r < 55296) with _ | _
      · rcases h4 : decide (57343 < r) with _ | _
        · have e4 : decide (r > 57343) = false := h4
          go_enter Tryz.func67, Tryz.ntmps67
          go_wp2
          go_ret
          exact ⟨by simp, Below.refl _ _⟩
        · have e4 : decide (r > 57343) = true := h4
          go_enter Tryz.func67, Tryz.ntmps67
          go_wp2
          go_ret
          exact ⟨by simp, Below.refl _ _⟩
      · go_enter Tryz.func67, Tryz.ntmps67
        go_wp2
        go_ret
        exact ⟨by simp, Below.refl _ _⟩
theorem ref01_Right (r : Int) (w : World) : Calls Tryz.prog 42 #[.int .i64 r] w fun e w' => e = .returned (.bool (scaR r)) ∧ Below w.heap.size w w' := by
  unfold scaR
  rcases h1 : decide (0 ≤ r) with _ | _
  · have e1 : decide (r ≥ 0) = false := h1
    go_enter Tryz.func42, Tryz.ntmps42
    go_wp2
    go_ret
    exact ⟨by simp, Below.refl _ _⟩
  · have e1 : decide (r ≥ 0) = true := h1
    rcases h2 : decide (r ≤ 1114111) with _ | _
    · go_enter Tryz.func42, Tryz.ntmps42
      go_wp2
      go_ret
      exact ⟨by simp, Below.refl _ _⟩
    · rcases h3 : decide (r < 55296) with _ | _
      · rcases h4 : decide (57343 < r) with _ | _
        · have e4 : decide (r > 57343) = false := h4
          go_enter Tryz.func42, Tryz.ntmps42
          go_wp2
          go_ret
          exact ⟨by simp, Below.refl _ _⟩
        · have e4 : decide (r > 57343) = true := h4
          go_enter Tryz.func42, Tryz.ntmps42
          go_wp2
          go_ret
          exact ⟨by simp, Below.refl _ _⟩
      · go_enter Tryz.func42, Tryz.ntmps42
        go_wp2
        go_ret
        exact ⟨by simp, Below.refl _ _⟩

theorem Tri.cell {w : World} {B : Nat} {Ai Ab : Option Addr} {ni nb : Nat} {T : TrV} (h : Tri w B Ai ni Ab nb T) (hr : rightT T = true) {r : Nat} (hl : r ≤ 1114111) :
    ∃ ib io bb bo b o c' n, Ai = some ⟨ib, io, none⟩ ∧ Ab = some ⟨bb, bo, none⟩ ∧ ib < B ∧ bb < B ∧ b < B ∧ n < nb ∧ ni = 4352 ∧ 256 ≤ c' ∧
      w.cell? ⟨ib, io + r / 256, none⟩ = some (.int .i64 (n : Nat)) ∧ w.cell? ⟨bb, bo + n, none⟩ = some (.slice (some ⟨b, o, none⟩) 256 c') ∧ w.cell? ⟨b, o + r % 256, none⟩ = some (.int .i64 (atT T r)) := by
  obtain ⟨n, h1, h2, h3, h4, h5, _⟩ := right_at hr hl
  obtain ⟨p1, p2, p3⟩ := right_parts hr
  have hni := h.ix.len
  have hnb := h.bl.len
  obtain ⟨ib, io, e1, hib, hic⟩ := h.ix.at_ (by omega)
  obtain ⟨bb, bo, e2, hbb, hbc⟩ := h.bl.at_ (by omega)
  obtain ⟨A', n', c', k1, k2, k3⟩ := hbc n h2
  have hl2 := (p3 _ (List.getElem_mem h2)).1
  have hk := k2.len
  obtain ⟨b, o, e3, hb, hc⟩ := k2.at_ (by omega)
  obtain rfl : n' = 256 := by omega
  subst e3
  exact ⟨ib, io, bb, bo, b, o, c', n, e1, e2, hib, hbb, hb, by omega, by omega, k3, by rw [hic _ h1, h4], k1, by rw [hc _ h3, h5]⟩
set_option maxHeartbeats 2000000 in
theorem trie_Value (Ai : Option Addr) (ni ci : Nat) (Ab : Option Addr) (nb cb : Nat) (T : TrV) (r : Int) (w : World) (hT : Tri w w.heap.size Ai ni Ab nb T) (hi : ni ≤ 1000000) (hnb : nb ≤ 1000000) (hbs : ∀ b ∈ T.bl, b.length ≤ 1000000) :
    Calls Tryz.prog 38 #[.agg #[.slice Ai ni ci, .slice Ab nb cb], .int .i64 r] w fun e w' => e = .returned (.int .i64 (valT T r)) ∧ Below w.heap.size w w' := by
  have hb1 : Below w.heap.size w (w.alloc (.cells #[.slice Ai ni ci, .slice Ab nb cb] 27)) := by go_grown
  have hc1 := trie_Right Ai ni ci Ab nb cb T (w.alloc (.cells #[.slice Ai ni ci, .slice Ab nb cb] 27)) ((hT.below hb1).more hb1.size) hi hnb hbs
  have Hc1 := Lib.hid hc1
  have Hb1 := Lib.hid hb1
  have HT := Lib.hid hT
  clear hc1 hb1 hT hbs
  by_cases h0 : r < 0
  · have hv : valT T r = 0 := by unfold valT; rw [if_neg (by omega)]
    rw [hv]
    clear hv
    go_enter Tryz.func38, Tryz.ntmps38
    go_wp2_with fail
    go_ret
    exact ⟨rfl, by go_grown⟩
  · by_cases h1 : 1114111 < r
    · have hv : valT T r = 0 := by unfold valT; rw [if_neg (by omega)]
      rw [hv]
      clear hv
      go_enter Tryz.func38, Tryz.ntmps38
      go_wp2_with fail
      go_ret
      exact ⟨rfl, by go_grown⟩
    · obtain ⟨k, rfl⟩ : ∃ k : Nat, r = (k : Int) := ⟨r.toNat, by omega⟩
      have hk : k ≤ 1114111 := by omega
      rcases hrt : rightT T with _ | _
      · have hv : valT T (k : Int) = 0 := by unfold valT; rw [if_neg (by rw [hrt]; simp)]
        rw [hv]
        rw [hrt] at Hc1
        clear hv hrt
        go_enter Tryz.func38, Tryz.ntmps38
        go_wp2_with fail
        refine Hc1.out.mono ?_
        rintro e w1 ⟨rfl, hb2⟩
        go_wp2_with fail
        go_ret
        exact ⟨rfl, Hb1.out.trans (hb2.mono Hb1.out.size)⟩
      · have hv : valT T (k : Int) = atT T k := by unfold valT; rw [if_pos ⟨by omega, by omega, hrt⟩]; rfl
        obtain ⟨ib, io, bb, bo, b, o, c', n, rfl, rfl, hib, hbb, hbl, hn, rfl, hc', c1, c2, c3⟩ := HT.out.cell hrt hk
        rw [hv]
        rw [hrt] at Hc1
        have e3 : k / 256 < 4352 := by omega
        have e4 : k % 256 < 256 := Nat.mod_lt _ (by decide)
        have e5 : ((k : Int)).tdiv 256 = ((k / 256 : Nat) : Int) := by rw [Int.tdiv_eq_ediv_of_nonneg (by omega)]; rfl
        have e6 : ((k : Int)).tmod 256 = ((k % 256 : Nat) : Int) := by rw [Int.tmod_eq_emod_of_nonneg (by omega)]; rfl
        generalize atT T k = v at *
        generalize k / 256 = kq at *
        generalize k % 256 = kr at *
        clear hv hrt HT
        go_enter Tryz.func38, Tryz.ntmps38
        go_wp2_with fail
        refine Hc1.out.mono ?_
        rintro e w1 ⟨rfl, hb2⟩
        have hbw1 := Hb1.out.trans (hb2.mono Hb1.out.size)
        have x0 : w1.cell? ⟨w.heap.size, 0, none⟩ = some (.slice (some ⟨ib, io, none⟩) 4352 ci) := (cellOf hb2 (by simp)).trans (cell_blk (heap_new rfl) 0)
        have x1 : w1.cell? ⟨w.heap.size, 1, none⟩ = some (.slice (some ⟨bb, bo, none⟩) nb cb) := (cellOf hb2 (by simp)).trans (cell_blk (heap_new rfl) 1)
        have d1 := (cellOf hbw1 hib).trans c1
        have d2 := (cellOf hbw1 hbb).trans c2
        have d3 := (cellOf hbw1 hbl).trans c3
        clear c1 c2 c3
        go_upto_region 3 with fail
        go_quiet (fail)
        go_wp2_with fail
        go_ret
        exact ⟨rfl, hbw1.trans (Below.mono (below_drewN _ _ _) hbw1.size)⟩
end Go.Vir

