/- class: the names of a set's classes. -/
import Derived.Test.YtpjhjjkkbbmnjaaGreatDoorWkK
import Derived.Test.YtpjhjjkkbbmnjaaGreatDoorWkJ
import Derived.Test.YtpjhjjkkbbmnjaaGreatDoorStrs
import Derived.Test.YtpjhjjkkbbmnjaaGreatDoorHeld
namespace Go.Vir
open Go Go.RowKit Go.Proofs Go.Shelf
attribute [local go_sem] Oper.semAt_some

theorem str_info : (Tryz.prog.info? 9).map (fun i => (i.zero, i.size, i.bytes)) = some (some (.string ⟨#[]⟩), 1, 16) := by kernel_rfl

/-- The names of a set's classes. -/
def namesL (s : Int) (ss : List (List UInt8)) : List (List UInt8) := (bitsL s 32).map fun c => ss.getD c.toNat []
def listB (s : Int) (ss : List (List UInt8)) : List UInt8 := Lib.join (namesL s ss) [32]

theorem bit_lt {s c : Int} {n : Nat} (hr : rightB s n = true) (hb : bitB s c = true) : 0 ≤ c ∧ c.toNat < n := by
  simp only [rightB, bitB, Bool.and_eq_true, decide_eq_true_eq, beq_iff_eq] at hr hb
  obtain ⟨h1, h2, h3, h4⟩ := hr
  obtain ⟨_, h5, h6, h7⟩ := hb
  refine ⟨h5, Nat.lt_of_not_le fun h => ?_⟩
  have hp : (2 : Int) ^ n ≤ 2 ^ c.toNat := by exact_mod_cast Nat.pow_le_pow_right (by decide) h
  rw [Int.toNat_natCast] at h4
  rw [Int.ediv_eq_zero_of_lt h3 (by omega)] at h7
  simp at h7
theorem bitsL_mem {s x : Int} {n : Nat} (h : x ∈ bitsL s n) : bitB s x = true := by
  unfold bitsL at h
  obtain ⟨c, hc, rfl⟩ := List.mem_map.1 h
  exact (List.mem_filter.1 hc).2
theorem namesL_mem {s : Int} {ss : List (List UInt8)} {n : Nat} (hr : rightB s n = true) (hn : ss.length = n) {x : List UInt8} (hx : x ∈ namesL s ss) : x ∈ ss := by
  unfold namesL at hx
  obtain ⟨c, hc, rfl⟩ := List.mem_map.1 hx
  have := bit_lt hr (bitsL_mem hc)
  have hlt : c.toNat < ss.length := by omega
  simp [List.getD_eq_getElem?_getD, hlt]

set_option maxRecDepth 100000 in
set_option maxHeartbeats 800000 in
theorem reader_list (r : Nat) (A : Option Addr) (n c : Nat) (ss : List (List UInt8)) (s : Int) (w : World) (hR : Reader w r A n c ss) (hr : rightB s n = true) (hs : ∀ x ∈ ss, x.length ≤ 1000) :
    Calls Tryz.prog 133 #[.pointer (some ⟨r, 0, none⟩), .int .i64 s] w fun e w' => e = .returned (.string ⟨(listB s ss).toArray⟩) ∧ Below w.heap.size w w' := by
  obtain ⟨i0, hi0, hz0, hz1, hz2⟩ := info_parts str_info
  have hN := bitsL_len s 32
  have hrl := hR.lt
  obtain ⟨mb, es, ck, hr1, _, _⟩ := hR.at_
  have hlen := hR.strs.len
  have Hl := Lib.hid hlen
  clear hlen
  refine (callsIn_wide (n := 0)).1 ?_
  refine callsIn_of_wp_marks Tryz.func133 rfl trivial ?_ rfl
  simp only [Tryz.ntmps133, List.size_toArray, List.length_cons, List.length_nil, Nat.reduceAdd, Nat.reduceSub, Array.replicate_succ, Array.replicate_zero, List.push_toArray, List.append_toArray, List.nil_append, List.cons_append]
  refine wpIn_wide.2 ?_
  go_wp2_with (go_at_call 165; refine (classes_make _ _).mono ?_; rintro e w1 ⟨rfl, rfl⟩)
  refine wp_gen ?_
  intro W1 hW1
  have hsz : W1.heap.size = w.heap.size + 3 := by simp [hW1]
  have hb : Below w.heap.size w W1 := by rw [hW1]; go_grown
  have d0 : W1.heap[w.heap.size]? = some (.cells #[.pointer (some ⟨r, 0, none⟩)] 129 (0, 0)) := (by rw [hW1]; simp (disch := (first | omega | (simp only [World.size_alloc]; done) | (simp only [World.size_alloc]; omega))) only [heap_laws])
  have d1 : W1.heap[w.heap.size + 1]? = some (.cells #[.slice none 0 0] 25 (0, 0)) := (by rw [hW1]; simp (disch := (first | omega | (simp only [World.size_alloc]; done) | (simp only [World.size_alloc]; omega))) only [heap_laws])
  have d2 : W1.heap[w.heap.size + 1 + 1]? = some (.cells #[.int .i64 s] 2 (0, 0)) := (by rw [hW1]; simp (disch := (first | omega | (simp only [World.size_alloc]; done) | (simp only [World.size_alloc]; omega))) only [heap_laws])
  clear hW1
  refine (wpIn_wide (n := 0)).1 ?_
  refine range_law (a₁ := ?a1) rfl (enters_of Tryz.func183 (by kernel_rfl) rfl) (classes_iter w.heap.size (w.heap.size + 1 + 1) s W1 (by omega) (by omega) d2) (Below.refl _ _)
    (fun k hk => by omega) (by omega) (fun _ => rfl)
    (fun i W => Below w.heap.size w W ∧ W.heap[w.heap.size]? = some (.cells #[.pointer (some ⟨r, 0, none⟩)] 129 (0, 0)) ∧ ∃ v, Boxed W (w.heap.size + 1) 25 v ∧
      W.ownsRow w.heap.size 9 1 v i (((namesL s ss).take i).map fun z => .string ⟨z.toArray⟩) ∧ (∀ g, v.ownBlock = some g → ¬ (g = w.heap.size ∨ g = w.heap.size + 1 + 1)))
    (fun i c W => False)
    (fun i X Y hi hm => by
      obtain ⟨h1, h0, v, h2, h3, h4⟩ := hi
      exact ⟨Below.moves h1 hm (Nat.le_refl _) (fun k hk => by omega), hm.cells h0 (by omega), v, hm.cells h2 (by omega), ownsRow_moves h3 hm (fun g hg ho => h4 g hg (.inr ho)), h4⟩)
    (fun i c X Y hi hm => hi)
    ⟨hb, d0, _, d1, World.ownsRow_nil _ _ _ _, fun g hg => by simp [Value.ownBlock] at hg⟩ ?assign ?body ?done ?stop
  case assign =>
    intro l i W K hK
    gi_wp2
    exact hK
  case body =>
    rintro l i W hi ⟨hbW, e0, v, hv, hrow, hgO⟩ hsW
    have hi2 : i < 32 := by omega
    obtain ⟨h0, h1⟩ := bit_lt hr (bitsL_mem (List.getElem_mem hi))
    obtain ⟨k, hk⟩ := Int.eq_ofNat_of_zero_le h0
    have hkn : k < n := by omega
    have hk2 : (bitsL s 32)[i]?.getD 0 = (k : Int) := by rw [List.getElem?_eq_getElem hi, hk]; rfl
    obtain ⟨zb, zo, rfl, hzb, hzc⟩ := hR.strs.at_ (by omega)
    have hkl : k < ss.length := by rw [Hl.out]; exact hkn
    have hnl : (namesL s ss)[i]? = some ss[k] := by
      unfold namesL
      rw [List.getElem?_map, List.getElem?_eq_getElem hi, hk]
      simp [List.getD_eq_getElem?_getD, hkl]
    have hL : ((namesL s ss).take i).map (fun z => Value.string ⟨z.toArray⟩) ++ [.string ⟨ss[k].toArray⟩] = ((namesL s ss).take (i + 1)).map fun z => Value.string ⟨z.toArray⟩ := by
      rw [List.take_add_one, List.map_append, hnl]; rfl
    have HL := Lib.hid hL
    have hkm : ss[k].length ≤ 1000 := hs _ (List.getElem_mem _)
    have hzk := (cellOf hbW hzb).trans (hzc k hkl)
    generalize ss[k] = sv at HL hzk hkm
    have e1 := cell_blk e0 0
    have e2 := hv.cell
    have e3 : W.cell? ⟨r, 0, none⟩ = some (.slice (some ⟨zb, zo, none⟩) n c) := (cellOf hbW hrl).trans (by simp [World.cell?, hr1])
    simp only [List.getElem?_toArray, List.getElem?_cons_zero] at e1
    clear hL hnl h0 h1 hzc hkl
    have hlt : w.heap.size + 1 < W.heap.size := by omega
    gi_wp2
    have hdec : decide ((k : Int) < 0) = false := by simp
    have hdec2 : decide (k < n) = true := by simpa using hkn
    refine wpIn_held_tail 9 (fun V => V.cell? ⟨w.heap.size, 0, none⟩ = some (.pointer (some ⟨r, 0, none⟩)) ∧ V.cell? ⟨w.heap.size + 1, 0, none⟩ = some v ∧ V.cell? ⟨r, 0, none⟩ = some (.slice (some ⟨zb, zo, none⟩) n c) ∧ V.cell? ⟨zb, zo + k, none⟩ = some (.string ⟨sv.toArray⟩))
      (by kernel_rfl) (by kernel_rfl) (by kernel_rfl) rfl (by decide) (by kernel_rfl) (by kernel_rfl) (by kernel_rfl) ⟨e1, e2, e3, hzk⟩ ?_
    simp only [List.take_succ_cons, List.take_zero]
    refine ⟨v, .inl ⟨rfl, fun V hV => by obtain ⟨c0, c1, c2, c3⟩ := hV; go_simp⟩, ?_⟩
    refine ⟨.pointer (some ⟨r, 0, none⟩), .inl ⟨rfl, fun V hV => by obtain ⟨c0, c1, c2, c3⟩ := hV; go_simp⟩, ?_⟩
    refine ⟨.pointer (some ⟨r, 0, none⟩), .inl ⟨rfl, fun V hV => by obtain ⟨c0, c1, c2, c3⟩ := hV; go_simp⟩, ?_⟩
    refine ⟨.pointer (some ⟨r, 0, none⟩), .inl ⟨rfl, fun V hV => by obtain ⟨c0, c1, c2, c3⟩ := hV; go_simp⟩, ?_⟩
    refine ⟨.pointer (some ⟨r, 0, none⟩), .inl ⟨rfl, fun V hV => by obtain ⟨c0, c1, c2, c3⟩ := hV; go_simp⟩, ?_⟩
    refine ⟨.slice (some ⟨zb, zo, none⟩) n c, .inl ⟨rfl, fun V hV => by obtain ⟨c0, c1, c2, c3⟩ := hV; go_simp⟩, ?_⟩
    refine ⟨.int .i64 (k : Int), .inl ⟨rfl, fun V hV => by obtain ⟨c0, c1, c2, c3⟩ := hV; go_simp⟩, ?_⟩
    refine ⟨.pointer (some ⟨zb, zo + k, none⟩), .inl ⟨rfl, fun V hV => by obtain ⟨c0, c1, c2, c3⟩ := hV; go_simp⟩, ?_⟩
    refine ⟨.string ⟨sv.toArray⟩, .inl ⟨rfl, fun V hV => by obtain ⟨c0, c1, c2, c3⟩ := hV; go_simp⟩, ?_⟩
    refine ⟨rfl, ?_⟩
    go_simp
    refine ⟨⟨(World.cell?_alloc_lt _ _ _ (by show w.heap.size < _; omega)).trans e1, (World.cell?_alloc_lt _ _ _ (by show r < _; omega)).trans e3, (World.cell?_alloc_lt _ _ _ (by show zb < _; omega)).trans hzk⟩, ?_⟩
    have hkp : Keeps w.heap.size (fun k => k = w.heap.size + 1 + 1) W W.drew := Keeps.below (fun k (hk : k = w.heap.size + 1 + 1) => by omega) (by omega) (Below.refl _ _).drew
    have hbW2 : Below w.heap.size w W.drew := hbW.drew
    have hv2 : Boxed W.drew (w.heap.size + 1) 25 v := hv
    have hrow2 : W.drew.ownsRow w.heap.size 9 1 v i (((namesL s ss).take i).map fun z => .string ⟨z.toArray⟩) := hrow
    have hrowA : (W.alloc (.cells #[.string ⟨sv.toArray⟩] 9)).drew.ownsRow w.heap.size 9 1 v i (((namesL s ss).take i).map fun z => .string ⟨z.toArray⟩) := hrow2.alloc _
    have hcA : ∀ (j : Nat) (u : Value), [Value.string ⟨sv.toArray⟩][j]? = some u → (W.alloc (.cells #[.string ⟨sv.toArray⟩] 9)).drew.cell? ((⟨W.heap.size, 0, none⟩ : Addr).add j) = some u := cell_one_new _ _ _
    have hbA : w.heap.size ≤ (W.alloc (.cells #[.string ⟨sv.toArray⟩] 9)).drew.heap.size := by show _ ≤ (W.alloc _).heap.size; simp; omega
    have Hn0 := Lib.hid (show w.heap.size ≤ W.drew.heap.size from (by show _ ≤ W.heap.size; omega))
    have Hn1 := Lib.hid (show ∀ k, (k = w.heap.size ∨ k = w.heap.size + 1 + 1) → k < W.drew.heap.size from fun k hk => (by show _ < W.heap.size; omega))
    have hrowA0 := Lib.hid hrow2
    clear hv hrow e1 e3 hzk hbW hrow2
    gi_wp2_with (gi_at_builtin; refine wpListIn_append_at _ rfl _ _ 25 rfl w.heap.size 9 i0 (.string ⟨#[]⟩) 1 16 Tryz.underlying25 hi0 hz0 hz1 hz2 rfl (by decide) _ _ _ rfl hrowA ⟨W.heap.size, 0, none⟩ 1 1 [.string ⟨sv.toArray⟩] rfl rfl hcA (by simp [Value.oneCell']) (by simp only [maxLen]; omega) (by omega) hbA ?_; intro v' w1 hown' hgrow hat'; obtain ⟨g', cap', rfl⟩ := ownsRow_succ hown'; have hap := boxed_appendedK (O := fun k => k = w.heap.size ∨ k = w.heap.size + 1 + 1) hv2 (by decide) (W := W.drew) hrowA0.out Hn0.out (by omega) (by simp) Hn1.out hgO hown' hgrow hat'; obtain ⟨hv1, hv3, hr2, hk2, hb2, hg2⟩ := hap; have hc1 := hv1.cell; have hf1 := hv1.frozen)
    rw [HL.out] at hr2
    exact ⟨hkp.trans (hk2.less fun k hk => .inr hk), hbW2.trans hb2, (hk2.own _ (.inl rfl)).trans e0, _, hv3, hr2, hg2⟩
  case done =>
    rintro D W hD ⟨hbW, _, v, hv, hrow, hgO⟩ hK
    have e0 := hv.cell
    have hnl : (namesL s ss).length = (bitsL s 32).length := by simp [namesL]
    rw [← hnl, List.take_length] at hrow
    obtain ⟨A', n', c', rfl, hcn⟩ : ∃ A' n' c', v = .slice A' n' c' ∧ n' ≤ c' := by
      rcases hrow.2 with ⟨h, _⟩ | ⟨g, cap, cur, h, _, _, hc, _⟩
      · exact ⟨_, _, _, h, Nat.le_refl _⟩
      · exact ⟨_, _, _, h, hc⟩
    have hn' : n' = (namesL s ss).length := by
      rcases hrow.2 with ⟨h, h2⟩ | ⟨g, cap, cur, h, _⟩
      · cases h; exact h2.symm
      · cases h; rfl
    rw [← hn'] at hrow
    have hst := Strs.of_own hrow
    have hj := join_strs A' n' c' _ (namesL s ss) 32 W hst (Nat.le_refl _) hcn (by omega) (fun x hx => by have := hs x (namesL_mem hr Hl.out hx); omega)
    clear hn' hnl hrow
    go_wp2_with (go_at_call 55; refine hj.mono ?_; rintro e w2 ⟨rfl, hb2⟩)
    have hDs : D < W.heap.size := (Array.getElem?_eq_some_iff.1 hK).1
    refine ⟨by simp, .inl ⟨_, _, rfl, run_takeDeferred ((hb2.block _ hDs).trans hK), ?_⟩⟩
    exact ⟨_, results_tmp rfl _ _ _, rfl, below_putObj (hbW.trans (hb2.mono hbW.size)) (by omega)⟩
  case stop =>
    rintro D i c W hD hi h hK
    exact h.elim
end Go.Vir
