/- class.open. -/
import Derived.Test.YtpjhjjkkbbmnjaaGreatDoorWkH
import Derived.BigQuiet
namespace Go.Vir
open Go Go.RowKit Go.Proofs Go.Shelf
attribute [local go_sem] Oper.semAt_some

/-- A reader of names lies here. -/
structure Reader (w : World) (r : Nat) (A : Option Addr) (n c : Nat) (ss : List (List UInt8)) : Prop where
  strs : Strs w w.heap.size A n ss
  at_ : ∃ m es ck, w.heap[r]? = some (.cells #[.slice A n c, .map (some m)] 188 (0, 0)) ∧ w.heap[m]? = some (.map es ck) ∧ Asc es (kvF ss ss.length)
theorem Reader.lt {w : World} {r : Nat} {A : Option Addr} {n c : Nat} {ss : List (List UInt8)} (h : Reader w r A n c ss) : r < w.heap.size := by
  obtain ⟨m, es, ck, h1, _⟩ := h.at_
  exact (Array.getElem?_eq_some_iff.1 h1).1
theorem Reader.below {w w' : World} {r : Nat} {A : Option Addr} {n c : Nat} {ss : List (List UInt8)} (h : Reader w r A n c ss) (hb : Below w.heap.size w w') : Reader w' r A n c ss := by
  obtain ⟨m, es, ck, h1, h2, h3⟩ := h.at_
  exact ⟨(h.strs.below hb).more hb.size, m, es, ck, (hb.block _ (Array.getElem?_eq_some_iff.1 h1).1).trans h1, (hb.block _ (Array.getElem?_eq_some_iff.1 h2).1).trans h2, h3⟩

set_option maxRecDepth 100000 in
set_option maxHeartbeats 800000 in
theorem class_open_yes (A : Option Addr) (n c : Nat) (ss : List (List UInt8)) (w : World) (hn : n ≤ 1000000) (hz : Strs w w.heap.size A n ss) (hs : ∀ x ∈ ss, x.length ≤ 1000000) (hN : namesB ss = true) :
    Calls Tryz.prog 89 #[.slice A n c] w fun e w' => ∃ r, e = .returned (.tuple #[.pointer (some ⟨r, 0, none⟩), .nilIface]) ∧ Reader w' r A n c ss ∧ Below w.heap.size w w' := by
  have hc := prop_Names A n c ss w hn hz hs
  rw [hN] at hc
  have hmm := @run_makeMap Tryz.prog
  have hlen := hz.len
  have Hl := Lib.hid hlen
  clear hlen hN
  go_enter Tryz.func89, Tryz.ntmps89
  go_wp2_with (go_at_call 51; refine hc.mono ?_; rintro e w1 ⟨rfl, hb1⟩)
  refine wp_gen ?_
  intro W1 hW1
  have hsz : W1.heap.size = w1.heap.size + 2 := by simp [hW1]
  have hb : Below w.heap.size w W1 := by rw [hW1]; exact (hb1.alloc hb1.size _).alloc (by simp; have := hb1.size; omega) _
  have d0 : W1.heap[w1.heap.size]? = some (.map #[] 0) := (by rw [hW1]; simp (disch := (first | omega | (simp only [World.size_alloc]; done) | (simp only [World.size_alloc]; omega))) only [heap_laws])
  have d1 : W1.heap[w1.heap.size + 1]? = some (.cells #[.slice A n c, .map (some w1.heap.size)] 188 (0, 0)) := (by rw [hW1]; simp (disch := (first | omega | (simp only [World.size_alloc]; done) | (simp only [World.size_alloc]; omega))) only [heap_laws])
  have hs1 := hb1.size
  clear hW1 hmm hc
  go_loopw [20] (fun i wr => ∃ k, k ≤ n ∧ i = .int .i64 (k : Int) ∧ Below w.heap.size w wr ∧ wr.heap[w1.heap.size + 1]? = some (.cells #[.slice A n c, .map (some w1.heap.size)] 188 (0, 0)) ∧
      ∃ es ck, wr.heap[w1.heap.size]? = some (.map es ck) ∧ Asc es (kvF ss k)) (fun i _ => n - (RowKit.intOf i).toNat)
  case atStart => exact ⟨0, Nat.zero_le _, rfl, hb, d1, #[], 0, d0, rfl⟩
  case round =>
    obtain ⟨k, hk, rfl, hbr, q1, es, ck, q0, hA⟩ := hrel
    have c1 : wr.cell? ⟨w1.heap.size + 1, 1, none⟩ = some (.map (some w1.heap.size)) := by simp [World.cell?, q1]
    rcases Nat.lt_or_ge k n with hlt | hge
    · obtain ⟨zb, zo, rfl, hzb, hzc⟩ := hz.at_ (by omega)
      have hk' : k < ss.length := by rw [Hl.out]; exact hlt
      have z1 := (cellOf hbr hzb).trans (hzc k hk')
      have Hst := Lib.hid (kvF_succ ss k hk')
      generalize hsv : ss[k] = sv at z1 Hst
      clear hsv
      go_wp2_with (refine wpList_upd_kv (kvs := kvF ss k) (k := sv) (v := (k : Int)) rfl rfl rfl rfl rfl Tryz.underlying124 Tryz.underlying9 q0 hA ?_; intro es' ck' hA')
      go_roundw
      case rel =>
        refine ⟨k + 1, by omega, by go_num, below_putObj hbr hs1, (World.putObj_heap_other (by omega)).trans q1, es', ck', World.putObj_heap_same (Array.getElem?_eq_some_iff.1 q0).1, ?_⟩
        rw [Hst.out]; exact hA'
      case measure => simp [RowKit.intOf]; omega
    · obtain rfl : k = n := by omega
      go_wp2
      go_ret2
      refine ⟨_, rfl, ⟨(hz.below hbr).more hbr.size, _, es, ck, q1, q0, ?_⟩, hbr⟩
      rw [Hl.out]; exact hA

set_option maxRecDepth 100000 in
set_option maxHeartbeats 800000 in
theorem class_open_no (A : Option Addr) (n c : Nat) (ss : List (List UInt8)) (te : TypeId) (ve : Value) (w : World) (hn : n ≤ 1000000) (hz : Strs w w.heap.size A n ss) (hs : ∀ x ∈ ss, x.length ≤ 1000000)
    (hg : w.cell? ⟨1, 0, none⟩ = some (.iface te ve)) (hgl : 1 < w.heap.size) (hN : namesB ss = false) :
    Calls Tryz.prog 89 #[.slice A n c] w fun e w' => e = .returned (.tuple #[.pointer none, .iface 133 (.agg #[.int .i64 2, .iface te ve])]) ∧ Below w.heap.size w w' := by
  have hc := prop_Names A n c ss w hn hz hs
  rw [hN] at hc
  go_enter Tryz.func89, Tryz.ntmps89
  go_wp2_with (go_at_call 51; refine hc.mono ?_; rintro e w1 ⟨rfl, hb1⟩; have hg1 := (cellOf hb1 hgl).trans hg)
  go_quiet (fail)
  go_wp2
  go_ret2
  exact ⟨rfl, hb1.trans (below_drewN _ _ _)⟩
end Go.Vir
