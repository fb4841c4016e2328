/- The walks of prop: of, areNames, Names. -/
import Derived.Test.YtpjhjjkkbbmnjaaGreatDoorWkG
import Derived.Test.YtpjhjjkkbbmnjaaGreatDoorMapS
import Derived.Deep.Cut
namespace Go.Vir
open Go Go.RowKit Go.Proofs Go.Shelf
attribute [local go_sem] Oper.semAt_some

set_option maxHeartbeats 400000 in
theorem backward_make (A : Option Addr) (n c : Nat) (w : World) :
    Calls Tryz.prog 126 #[.slice A n c] w fun e w' =>
      e = .returned (.func (.func 163) #[] #[.pointer (some ⟨w.heap.size, 0, none⟩)]) ∧ w.alloc (.cells #[.slice A n c] 25) = w' := by
  go_enter Tryz.func126, Tryz.ntmps126
  go_wp2
  go_ret
  exact ⟨rfl, rfl⟩

set_option maxHeartbeats 400000 in
theorem backward_iter (B0 b : Nat) (A : Option Addr) (n c : Nat) (ss : List (List UInt8)) (W0 : World) (hb : B0 ≤ b) (hsz : b < W0.heap.size) (hn : n ≤ 1000000)
    (c0 : W0.heap[b]? = some (.cells #[.slice A n c] 25 (0, 0))) (hz : Strs W0 B0 A n ss) :
    Iter Tryz.prog 163 #[.pointer (some ⟨b, 0, none⟩)] n (fun i => #[.int .i64 ((n - 1 - i : Nat) : Int), strV (ss.getD (n - 1 - i) [])]) (fun k => k = b) B0 W0 := by
  intro l J Jx W hW hJ hJx hY h0
  have hlen := hz.len
  have hW' := hW.mono (show B0 ≤ W0.heap.size by omega)
  have c1 : W.heap[b]? = some (.cells #[.slice A n c] 25 (0, 0)) := (hW.block _ hsz).trans c0
  have e1 : W.cell? ⟨b, 0, none⟩ = some (.slice A n c) := by simp [World.cell?, c1]
  have hz1 := hz.below hW'
  refine callsIn_wide.2 ?_
  go_enter Tryz.func163, Tryz.ntmps163
  go_wp2
  go_loopw [3] (fun v wr => ∃ k : Nat, k ≤ n ∧ v = .int .i64 ((k : Int) - 1) ∧ J (n - k) wr ∧ wr.heap[b]? = some (.cells #[.slice A n c] 25 (0, 0)) ∧ Strs wr B0 A n ss) (fun v _ => (RowKit.intOf v + 1).toNat)
  case atStart => exact ⟨n, Nat.le_refl _, rfl, by simpa using h0, c1, hz1⟩
  case round =>
    obtain ⟨k, hk, rfl, hJk, d0, dz⟩ := hrel
    have d1 : wr.cell? ⟨b, 0, none⟩ = some (.slice A n c) := by simp [World.cell?, d0]
    rcases Nat.eq_zero_or_pos k with h00 | hpos
    · subst h00
      go_wp2
      go_end0
      exact ⟨⟨_, rfl⟩, .inl (by simpa using hJk)⟩
    · obtain ⟨m, rfl⟩ : ∃ m, k = m + 1 := ⟨k - 1, by omega⟩
      obtain ⟨zb, zo, rfl, hzb, hzc⟩ := dz.at_ (by omega)
      have hzm := hzc m (by omega)
      rw [show (((m + 1 : Nat) : Int) - 1) = (m : Int) by omega]
      have hy := hY (n - (m + 1)) wr (by omega) hJk
      rw [show n - 1 - (n - (m + 1)) = m by omega, show ss.getD m [] = ss[m]'(by omega) by simp [List.getD_eq_getElem?_getD, show m < ss.length by omega]] at hy
      obtain ⟨fn, tmps, assign, body, hy, hR⟩ := hy
      generalize hsv : ss[m] = sv at hzm hy
      have hy' := Lib.hid hy
      clear hy hsv hlen
      have hmn : m < n := by omega
      have hdec : decide ((m : Int) < 0) = false := by simp
      have hdec2 : decide (m < n) = true := by simpa using hmn
      go_upto_region 3 with (fail)
      refine (wpIn_wide (n := 0)).1 ?_
      have hy : (Instr.yield l #[.int .i64 (m : Int), .string ⟨sv.toArray⟩]).run Tryz.prog wr = .ok (.round l fn tmps assign body) wr := hy'
      clear hdec hdec2 hy'
      gi_wp2
      refine ⟨rfl, hR.mono ?_⟩
      rintro e W' (⟨rfl, hJ', hk'⟩ | ⟨rfl, hJx'⟩)
      · have f0 : W'.heap[b]? = some (.cells #[.slice (some ⟨zb, zo, none⟩) n c] 25 (0, 0)) := (hk'.own _ (by omega)).trans d0
        have fz : Strs W' B0 (some ⟨zb, zo, none⟩) n ss := ⟨dz.len, fun _ => ⟨zb, zo, rfl, hzb, fun j hj => (World.cell?_of_block (hk'.low zb hzb)).trans (hzc j hj)⟩⟩
        gi_wp2
        go_wp2
        go_roundw
        case rel =>
          exact ⟨m, by omega, rfl, by rw [show n - m = n - (m + 1) + 1 by omega]; exact hJ', f0, fz⟩
        case measure => simp [RowKit.intOf]
      · gi_wp2
        go_wp2
        refine bodyPost_ret (results_none rfl _ _ _) rfl ?_
        exact ⟨⟨_, rfl⟩, .inr ⟨_, by omega, hJx'⟩⟩

/-- The functions ask this of a name. -/
def SaysS (P : Program) (g : Nat) (lb : Array Value) (p : List UInt8 → Bool) (w : World) : Prop :=
  ∀ (x : List UInt8) (W : World), Below w.heap.size w W → x.length ≤ 1000000 → Calls P g (#[strV x] ++ lb) W fun e w' => e = .returned (.bool (p x)) ∧ Below W.heap.size W w'

set_option maxHeartbeats 400000 in
theorem indexFunc_str {g : Nat} {p : List UInt8 → Bool} (A : Option Addr) (n c : Nat) (xs : List (List UInt8)) (w : World)
    (eg : ∀ args w, (callFunc g args).run Tryz.prog w = .ok (.enter g args) w) (hx : Strs w w.heap.size A n xs) (hs : ∀ x ∈ xs, x.length ≤ 1000000)
    (hp : SaysS Tryz.prog g #[] p w) (hn : n ≤ 1000000) :
    Calls Tryz.prog 164 #[.slice A n c, .func (.func g) #[] #[]] w fun e w' => e = .returned (.int .i64 (firstB p xs)) ∧ Below w.heap.size w w' := by
  go_enter Tryz.func164, Tryz.ntmps164
  go_wp2
  have hlen := hx.len
  go_loopw [8] (fun i wr => ∃ k : Nat, k ≤ n ∧ i = .int .i64 k ∧ (∀ (j : Nat) (h : j < k) (h2 : j < xs.length), p xs[j] = false) ∧ Below w.heap.size w wr) (fun i _ => n - (RowKit.intOf i).toNat)
  case atStart => exact ⟨0, Nat.zero_le _, rfl, fun j h => absurd h (by omega), Below.refl _ _⟩
  case round =>
    obtain ⟨k, hk, rfl, hno, hb⟩ := hrel
    rcases Nat.lt_or_ge k n with hlt | hge
    · obtain ⟨zb, zo, rfl, hzb, hzc⟩ := hx.at_ (by omega)
      have z1 := (cellOf hb hzb).trans (hzc k (by omega))
      have hc := hp xs[k] wr hb (hs _ (List.getElem_mem _))
      go_wp2
      refine hc.mono ?_
      rintro e w1 ⟨rfl, hb1⟩
      rcases hpk : p xs[k] with _ | _
      · have hno' : ∀ (j : Nat) (h : j < k + 1) (h2 : j < xs.length), p xs[j] = false := fun j h h2 => by
          rcases Nat.lt_or_ge j k with h3 | h3
          · exact hno j h3 h2
          · obtain rfl : j = k := by omega
            exact hpk
        have hb2 := hb.trans (hb1.mono hb.size)
        clear hno hb hb1 hc hpk
        go_wp2
        go_roundw
        case rel => exact ⟨k + 1, by omega, by go_num, hno', hb2⟩
        case measure => simp [RowKit.intOf]; omega
      · have hf : firstB p xs = k := firstB_hit (by omega) hpk (fun j h => hno j h (by omega))
        have Hf := Lib.hid hf
        clear hf hpk
        go_wp2
        go_ret
        exact ⟨ret_int Hf.out.symm, hb.trans (hb1.mono hb.size)⟩
    · have hf : firstB p xs = -1 := firstB_none (fun j h => hno j (by omega) h)
      have Hf := Lib.hid hf
      clear hf
      go_wp2
      go_ret
      exact ⟨ret_int Hf.out.symm, hb⟩

set_option maxHeartbeats 400000 in
theorem containsFunc_str {g : Nat} {p : List UInt8 → Bool} (A : Option Addr) (n c : Nat) (xs : List (List UInt8)) (w : World)
    (eg : ∀ args w, (callFunc g args).run Tryz.prog w = .ok (.enter g args) w) (hx : Strs w w.heap.size A n xs) (hs : ∀ x ∈ xs, x.length ≤ 1000000)
    (hp : SaysS Tryz.prog g #[] p w) (hn : n ≤ 1000000) :
    Calls Tryz.prog 129 #[.slice A n c, .func (.func g) #[] #[]] w fun e w' => e = .returned (.bool (xs.any p)) ∧ Below w.heap.size w w' := by
  have hc := indexFunc_str A n c xs w eg hx hs hp hn
  rw [← firstB_ge p xs]
  clear eg hx hp
  go_enter Tryz.func129, Tryz.ntmps129
  go_wp2_with (go_at_call 164; refine hc.mono ?_; rintro e w1 ⟨rfl, hb1⟩)
  go_ret
  exact ⟨rfl, hb1⟩

theorem areNames1 (x : List UInt8) (W : World) (hx : x.length ≤ 1000000) :
    Calls Tryz.prog 127 #[strV x] W fun e w' => e = .returned (.bool (!nameB x)) ∧ Below W.heap.size W w' := by
  have hc := prop_isName ⟨x.toArray⟩ W (by show x.toArray.size ≤ _; simpa using hx)
  go_enter Tryz.func127, Tryz.ntmps127
  go_wp2_with (go_at_call 128; refine hc.mono ?_; rintro e w1 ⟨rfl, hb1⟩)
  go_ret
  exact ⟨rfl, hb1⟩

set_option maxHeartbeats 400000 in
theorem prop_of (A : Option Addr) (n c : Nat) (ss : List (List UInt8)) (w : World) (hn : n ≤ 1000000) (hz : Strs w w.heap.size A n ss) :
    Calls Tryz.prog 86 #[.slice A n c] w fun e w' =>
      ∃ r es clock, e = .returned (.agg #[.slice A n c, .map (some r)]) ∧ w'.heap[r]? = some (.map es clock) ∧ Asc es (kvOf ss 0) ∧ Below w.heap.size w w' := by
  have hmm := @run_makeMap Tryz.prog
  have hlen := hz.len
  have Hl := Lib.hid hlen
  clear hlen
  refine (callsIn_wide (n := 0)).1 ?_
  refine callsIn_of_wp_marks Tryz.func86 rfl trivial ?_ rfl
  simp only [Tryz.ntmps86, List.size_toArray, List.length_cons, List.length_nil, Nat.reduceAdd, Nat.reduceSub, Array.replicate_succ, Array.replicate_zero, List.push_toArray, List.append_toArray, List.nil_append, List.cons_append]
  refine wpIn_wide.2 ?_
  go_wp2_with (go_at_call 126; refine (backward_make _ _ _ _).mono ?_; rintro e w1 ⟨rfl, rfl⟩)
  clear hmm
  refine wp_gen ?_
  intro W1 hW1
  have hsz : W1.heap.size = w.heap.size + 4 := by simp [hW1]
  have hb : Below w.heap.size w W1 := by rw [hW1]; go_grown
  have d0 : W1.heap[w.heap.size]? = some (.cells #[.slice none 0 0, .map none] 126 (0, 0)) := (by rw [hW1]; simp (disch := (first | omega | (simp only [World.size_alloc]; done) | (simp only [World.size_alloc]; omega))) only [heap_laws])
  have d1 : W1.heap[w.heap.size + 1]? = some (.map #[] 0) := (by rw [hW1]; simp (disch := (first | omega | (simp only [World.size_alloc]; done) | (simp only [World.size_alloc]; omega))) only [heap_laws])
  have d2 : W1.heap[w.heap.size + 1 + 1]? = some (.cells #[.map (some (w.heap.size + 1))] 124 (0, 0)) := (by rw [hW1]; simp (disch := (first | omega | (simp only [World.size_alloc]; done) | (simp only [World.size_alloc]; omega))) only [heap_laws])
  have d3 : W1.heap[w.heap.size + 1 + 1 + 1]? = some (.cells #[.slice A n c] 25 (0, 0)) := (by rw [hW1]; simp (disch := (first | omega | (simp only [World.size_alloc]; done) | (simp only [World.size_alloc]; omega))) only [heap_laws])
  clear hW1
  refine (wpIn_wide (n := 0)).1 ?_
  refine range_law (a₁ := ?a1) rfl (enters_of Tryz.func163 (by kernel_rfl) rfl) (backward_iter w.heap.size (w.heap.size + 1 + 1 + 1) A n c ss W1 (by omega) (by omega) hn d3 (hz.below hb)) (Below.refl _ _)
    (fun k hk => by omega) (by omega) (fun _ => rfl)
    (fun i W => Below w.heap.size w W ∧ W.heap[w.heap.size]? = some (.cells #[.slice none 0 0, .map none] 126 (0, 0)) ∧ W.heap[w.heap.size + 1 + 1]? = some (.cells #[.map (some (w.heap.size + 1))] 124 (0, 0)) ∧
      ∃ es clock, W.heap[w.heap.size + 1]? = some (.map es clock) ∧ Asc es (kvOf (ss.drop (n - i)) (n - i)))
    (fun i c W => False)
    (fun i X Y hi hm => by
      obtain ⟨h1, h2, h3, es, ck, h4, h5⟩ := hi
      exact ⟨Below.moves h1 hm (Nat.le_refl _) (fun k hk => by omega), hm.cells h2 (by omega), hm.cells h3 (by omega), es, ck, hm.dataObj h4 (by omega), h5⟩)
    (fun i c X Y hi hm => hi)
    ⟨hb, d0, d2, #[], 0, d1, by rw [Nat.sub_zero, ← Hl.out, List.drop_length]; rfl⟩ ?assign ?body ?done ?stop
  case assign =>
    intro l i W K hK
    gi_wp2
    exact hK
  case body =>
    rintro l i W hi ⟨hbW, e0, e2, es, ck, e1, hA⟩ hsW
    have e3 : W.cell? ⟨w.heap.size + 1 + 1, 0, none⟩ = some (.map (some (w.heap.size + 1))) := by simp [World.cell?, e2]
    have hlt : w.heap.size < W.heap.size := by omega
    have hi' : n - 1 - i < ss.length := by rw [Hl.out]; omega
    have hget : ss.getD (n - 1 - i) [] = ss[n - 1 - i] := by simp [List.getD_eq_getElem?_getD, hi']
    have hstep : updKV (ss.getD (n - 1 - i) []) ((n - 1 - i : Nat) : Int) (kvOf (ss.drop (n - i)) (n - i)) = kvOf (ss.drop (n - (i + 1))) (n - (i + 1)) := by
      rw [hget, show n - (i + 1) = n - 1 - i by omega, kvOf_drop ss (n - 1 - i) hi', show n - 1 - i + 1 = n - i by omega]
    have Hs := Lib.hid hstep
    clear hstep hget
    gi_wp2_with (refine wpListIn_upd_kv (kvs := kvOf (ss.drop (n - i)) (n - i)) (k := ss.getD (n - 1 - i) []) (v := ((n - 1 - i : Nat) : Int)) rfl rfl rfl rfl rfl Tryz.underlying124 Tryz.underlying9 e1 hA ?_; intro es' ck' hA')
    rw [Hs.out] at hA'
    refine ⟨Keeps.putData e1 rfl (by show ¬ (_ = _); omega) (by omega), below_putObj hbW (by omega), (World.putObj_heap_other (by omega)).trans e0, (World.putObj_heap_other (by omega)).trans e2, es', ck', World.putObj_heap_same (by omega), hA'⟩
  case done =>
    rintro D W hD ⟨hbW, e0, e2, es, ck, e1, hA⟩ hK
    have e3 : W.cell? ⟨w.heap.size + 1 + 1, 0, none⟩ = some (.map (some (w.heap.size + 1))) := by simp [World.cell?, e2]
    have e4 : W.cell? ⟨w.heap.size, 0, none⟩ = some (.slice none 0 0) := by simp [World.cell?, e0]
    have e5 : W.frozen? ⟨w.heap.size, 0, none⟩ = false := frozen_blk e0 0
    have e6 : W.cell? ⟨w.heap.size, 1, none⟩ = some (.map none) := by simp [World.cell?, e0]
    have e7 : W.frozen? ⟨w.heap.size, 1, none⟩ = false := frozen_blk e0 1
    go_wp2
    obtain ⟨V, hV⟩ : ∃ V, (W.setCell ⟨w.heap.size, 0, none⟩ (.slice A n c)).setCell ⟨w.heap.size, 1, none⟩ (.map (some (w.heap.size + 1))) = V := ⟨_, rfl⟩
    have hne : w.heap.size ≠ D := by omega
    have hne1 : w.heap.size + 1 ≠ D := by omega
    have hD2 : V.heap[D]? = some (.deferred (some [])) := by
      rw [← hV]; exact (Below.heap_setCell _ _ _ _ (Ne.symm hne)).trans ((Below.heap_setCell _ _ _ _ (Ne.symm hne)).trans hK)
    have hc0 : V.heap[w.heap.size]? = some (.cells #[.slice A n c, .map (some (w.heap.size + 1))] 126 (0, 0)) := by
      rw [← hV]; simp [World.setCell, Array.getElem?_modify, e0]
    have hc1 : V.heap[w.heap.size + 1]? = some (.map es ck) := by
      rw [← hV]; exact (Below.heap_setCell _ _ _ _ (Nat.succ_ne_self _)).trans ((Below.heap_setCell _ _ _ _ (Nat.succ_ne_self _)).trans e1)
    have hbV : Below w.heap.size w V := by rw [← hV]; exact (hbW.setCell (by simp) _).setCell (by simp) _
    rw [hV]
    clear hV
    refine ⟨by simp, .inl ⟨_, _, rfl, run_takeDeferred hD2, ?_⟩⟩
    have f0 := cell_blk ((World.putObj_heap_other (o := .deferred none) hne).trans hc0) 0
    have f1 := cell_blk ((World.putObj_heap_other (o := .deferred none) hne).trans hc0) 1
    rw [Nat.sub_self] at hA
    refine ⟨.agg #[.slice A n c, .map (some (w.heap.size + 1))], by simp [results, Tryz.results86, go_sem, f0, f1], w.heap.size + 1, es, ck, rfl, (World.putObj_heap_other hne1).trans hc1, hA, ?_⟩
    exact below_putObj hbV (by omega)
  case stop =>
    rintro D i c W hD hi hx hK
    exact hx.elim

def namesB (ss : List (List UInt8)) : Bool := decide (1 ≤ ss.length) && decide (ss.length ≤ 32) && decide (ss.Nodup) && ss.all nameB

theorem run_len_map {P : Program} {t K E : TypeId} {r : Nat} {es : Array MapEntry} {ck : Nat} {w : World} (ht : P.underlying t = some (.map K E)) (ty : TypeId) (hb : w.heap[r]? = some (.map es ck)) :
    (Builtin.len_ #[t] ty #[.map (some r)]).run P w = .ok (.int .i64 es.size) w := by
  unfold Builtin.len_
  simp [Sem.run_bind, run_underlying ht, run_getMap hb, Result.andThen, goInt]

set_option maxRecDepth 100000 in
set_option maxHeartbeats 400000 in
theorem prop_areNames (A : Option Addr) (n c : Nat) (ss : List (List UInt8)) (r : Nat) (es : Array MapEntry) (ck : Nat) (w : World) (hn : n ≤ 1000000) (hz : Strs w w.heap.size A n ss)
    (hs : ∀ x ∈ ss, x.length ≤ 1000000) (hr : w.heap[r]? = some (.map es ck)) (ha : Asc es (kvOf ss 0)) :
    Calls Tryz.prog 87 #[.agg #[.slice A n c, .map (some r)]] w fun e w' => e = .returned (.bool (namesB ss)) ∧ Below w.heap.size w w' := by
  have hlen := hz.len
  have hsa := size_asc ha
  have hk := length_kvOf ss 0
  have hc : ∀ W, Below w.heap.size w W → Calls Tryz.prog 129 #[.slice A n c, .func (.func 127) #[] #[]] W fun e w' => e = .returned (.bool (ss.any fun x => !nameB x)) ∧ Below W.heap.size W w' :=
    fun W hW => containsFunc_str A n c ss W (enters_of Tryz.func127 (by kernel_rfl) rfl) ((hz.below hW).more hW.size) hs (fun x V hV hx => areNames1 x V hx) hn
  have Hc := Lib.hid hc
  have Hl := Lib.hid hlen
  have Hs := Lib.hid hsa
  have Hk := Lib.hid hk
  have hrs : r < w.heap.size := (Array.getElem?_eq_some_iff.1 hr).1
  have hm1 : es.size < 9223372036854775808 := by omega
  clear hc hlen hsa hk ha hs hz
  have hln : ∀ o, (Builtin.len_ #[124] 3 #[.map (some r)]).run Tryz.prog (w.alloc o) = .ok (.int .i64 es.size) (w.alloc o) :=
    fun o => run_len_map Tryz.underlying124 _ ((heap_old hrs).trans hr)
  go_enter Tryz.func87, Tryz.ntmps87
  go_wp2_with (go_at_call 129; refine (Hc.out _ (by go_grown)).mono ?_; rintro e w1 ⟨rfl, hb1⟩)
  all_goals go_ret
  all_goals refine ⟨ret_bool ?_, ?_⟩
  all_goals try (first | exact Below.trans (by go_grown) (Below.mono hb1 (by simp)) | go_grown)
  all_goals have hl := Hl.out
  all_goals have hs := Hs.out
  all_goals have hk := Hk.out
  · have h2 : ss.Nodup := hk.2.1 (by omega)
    simp [namesB, h2, show 1 ≤ ss.length by omega, show ss.length ≤ 32 by omega, List.all_eq_not_any_not]
  · have h2 : ¬ ss.Nodup := fun h => by have := hk.2.2 h; omega
    simp [namesB, h2]
  · simp [namesB, show ¬ ss.length ≤ 32 by omega]
  · simp [namesB, show ¬ 1 ≤ ss.length by omega]

set_option maxHeartbeats 400000 in
theorem prop_Names (A : Option Addr) (n c : Nat) (ss : List (List UInt8)) (w : World) (hn : n ≤ 1000000) (hz : Strs w w.heap.size A n ss) (hs : ∀ x ∈ ss, x.length ≤ 1000000) :
    Calls Tryz.prog 51 #[.slice A n c] w fun e w' => e = .returned (.bool (namesB ss)) ∧ Below w.heap.size w w' := by
  have hc := prop_of A n c ss w hn hz
  go_enter Tryz.func51, Tryz.ntmps51
  go_wp2_with (first
    | (go_at_call 86; refine hc.mono ?_; rintro e w1 ⟨r, es, ck, rfl, hr, ha, hb1⟩; have hd := prop_areNames A n c ss r es ck w1 hn ((hz.below hb1).more hb1.size) hs hr ha; clear hr ha)
    | (go_at_call 87; refine hd.mono ?_; rintro e w2 ⟨rfl, hb2⟩))
  go_ret
  exact ⟨rfl, hb1.trans (hb2.mono hb1.size)⟩
end Go.Vir
