/- viramalaw09: PatternJoins. -/
import Derived.Test.YtiedahfminhnbaaGreatDoorWb
import Derived.Deep.RegionHeld3
namespace Go.Vir
open Go Go.RowKit Go.Proofs Go.Shelf
attribute [local go_sem] Oper.semAt_some

theorem step_append_any {P : Program} {ops : Array Oper} {o : Oper} {a : Act} {w : World} {K : Act → World → Prop} {Q : Exit → Act → World → Prop} {E : Prop}
    (hg : o.guard = none) (s x : Operand) (t : TypeId) (hop : o.op = Op.call { callee := Callee.builtin Builtin.append, args := #[s, x], argTypes := #[t, t] })
    (base : Nat) (e : TypeId) (i : TypeInfo) (z : Value) (size bytes : Nat) (h1 : P.underlying t = some (.slice e)) (h2 : P.info? e = some i) (h3 : i.zero = some z) (h4 : i.size = size) (h5 : i.bytes = bytes) (h6 : z.cells.size = size) (h7 : 0 < size)
    (v : Value) (n : Nat) (xs : List Value) (hs : a.eval s = v) (hown : w.ownsRow base e size v n xs)
    (Ax : Option Addr) (m c : Nat) (news : List Value) (hx : a.eval x = .slice Ax m c) (hnone : Ax = none → m = 0 ∧ c = 0) (hn : news.length = m * size) (hc : ∀ ad, Ax = some ad → ∀ j u, news[j]? = some u → w.cell? (ad.add j) = some u) (h1c : ∀ u ∈ news, u.oneCell' = true)
    (b1 : n + m ≤ maxLen) (b2 : (n + m) * bytes ≤ 140737488355328) (hbase : base ≤ w.heap.size)
    (hK : ∀ v' w', w'.ownsRow base e size v' (n + m) (xs ++ news) → w.grownBy w' v.ownBlock → K (a.put o.dst v') w') :
    if Region.wanted o (yielded ops a.tmps) = true then Oper.wp P o a w K Q else E := by
  cases Ax with
  | some ad => exact step_append_mine hg s x t hop base e i z size bytes h1 h2 h3 h4 h5 h6 h7 v n xs hs hown ad m c news hx hn (hc ad rfl) h1c b1 b2 hbase hK
  | none =>
    obtain ⟨rfl, rfl⟩ := hnone rfl
    obtain rfl : news = [] := List.eq_nil_of_length_eq_zero (by simpa using hn)
    have hw : Region.wanted o (yielded ops a.tmps) = true := by simp [Region.wanted, hg]
    rw [if_pos hw]
    have hrun := run_append_owned_none (P := P) (w := w) base t o.type e i size h1 h2 v n xs hown
    unfold Oper.wp
    simp [execOp, hop, resolve, invoke, builtin, hs, hx, hrun, Result.andThen]
    exact hK v w (by simpa using hown) ⟨rfl, rfl, rfl, Nat.le_refl _, fun _ _ _ => rfl⟩

theorem Prs.cells {W : World} {Bd n : Nat} {A : Option Addr} {xs : List (Int × Int)} (h : Prs W Bd A n xs) : ∀ ad, A = some ad → ∀ (j : Nat) (u : Value), (itemVs xs)[j]? = some u → W.cell? (ad.add j) = some u := by
  intro ad hA j u hj
  have hjl := (List.getElem?_eq_some_iff.1 hj).1
  rw [itemVs_len, h.len] at hjl
  obtain ⟨b, o, e, _, hc⟩ := h.at_ (by omega)
  rw [hA] at e
  obtain rfl := Option.some.inj e
  have hj2 : j / 2 < xs.length := by rw [h.len]; omega
  have h2 := hc (j / 2) hj2
  obtain ⟨g1, g2⟩ := itemVs_get xs (j / 2) hj2
  have hadd : (Addr.add ⟨b, o, none⟩ j) = ⟨b, o + j, none⟩ := by
    unfold Addr.add
    split <;> simp_all
  rw [hadd]
  rcases Nat.mod_two_eq_zero_or_one j with h3 | h3
  · have e1 : j = j / 2 * 2 := by omega
    rw [e1, g1] at hj
    rw [e1, h2.1]; exact hj
  · have e1 : j = j / 2 * 2 + 1 := by omega
    rw [e1, g2] at hj
    rw [e1, show o + (j / 2 * 2 + 1) = o + j / 2 * 2 + 1 by omega, h2.2]; exact hj

theorem itemVs_append (xs ys : List (Int × Int)) : itemVs (xs ++ ys) = itemVs xs ++ itemVs ys := by simp [itemVs]
theorem itemVs_one (xs : List (Int × Int)) : ∀ u ∈ itemVs xs, u.oneCell' = true := by
  intro u hu
  obtain ⟨x, _, h⟩ := List.mem_flatMap.1 hu
  simp at h
  rcases h with rfl | rfl <;> rfl

theorem mt_append : ∀ (xs ys : List (Int × Int)) (l : List Int), mtB (xs ++ ys) l = true ↔ ∃ i, i ≤ l.length ∧ mtB xs (l.take i) = true ∧ mtB ys (l.drop i) = true
  | [], ys, l => by
    constructor
    · intro h; exact ⟨0, Nat.zero_le _, rfl, h⟩
    · rintro ⟨i, hi, h1, h2⟩
      simp only [mtB, List.isEmpty_iff] at h1
      have h3 : l.take i ++ l.drop i = l := List.take_append_drop i l
      rw [h1, List.nil_append] at h3
      rw [h3] at h2
      exact h2
  | x :: xs, ys, l => by
    simp only [List.cons_append, mtB, List.any_eq_true, List.mem_range, Bool.and_eq_true]
    constructor
    · rintro ⟨k, hk, h1, h2⟩
      obtain ⟨i, hi, h3, h4⟩ := (mt_append xs ys (l.drop k)).1 h2
      rw [List.length_drop] at hi
      refine ⟨k + i, by omega, ⟨k, by rw [List.length_take]; omega, ?_, ?_⟩, ?_⟩
      · rw [List.take_take, Nat.min_eq_left (by omega)]; exact h1
      · rw [List.drop_take, Nat.add_sub_cancel_left]; exact h3
      · rw [List.drop_drop] at h4; exact h4
    · rintro ⟨i, hi, ⟨k, hk, h1, h2⟩, h3⟩
      rw [List.length_take] at hk
      rw [List.take_take, Nat.min_eq_left (by omega)] at h1
      rw [List.drop_take] at h2
      refine ⟨k, by omega, h1, (mt_append xs ys (l.drop k)).2 ⟨i - k, by rw [List.length_drop]; omega, h2, ?_⟩⟩
      rw [List.drop_drop, show k + (i - k) = i by omega]; exact h3

theorem joins_any {xs ys : List (Int × Int)} {zs : List Int} (hx : xs.length ≤ 5) (hy : ys.length ≤ 5) :
    ((List.range (zs.length + 1)).any fun i => fitsB xs (zs.take i) && fitsB ys (seg zs i zs.length)) = fitsB (xs ++ ys) zs := by
  have hseg : ∀ i, seg zs i zs.length = zs.drop i := fun i => by
    unfold seg
    exact List.take_of_length_le (by rw [List.length_drop]; exact Nat.le_refl _)
  have hp : patB 32 (xs ++ ys) = (patB 32 xs && patB 32 ys) := by
    rw [Bool.eq_iff_iff]
    simp only [patB, Bool.and_eq_true, decide_eq_true_eq, List.all_append, List.length_append]
    constructor
    · rintro ⟨a, b, _, c, d⟩; exact ⟨⟨a, b, by omega, c⟩, a, b, by omega, d⟩
    · rintro ⟨⟨a, b, _, c⟩, _, _, _, d⟩; exact ⟨a, b, by omega, c, d⟩
  rw [Bool.eq_iff_iff]
  simp only [fitsB, hp, List.any_eq_true, List.mem_range, Bool.and_eq_true, hseg]
  constructor
  · rintro ⟨i, hi, ⟨a, b⟩, c, d⟩; exact ⟨⟨a, c⟩, (mt_append xs ys zs).2 ⟨i, by omega, b, d⟩⟩
  · rintro ⟨⟨a, c⟩, h⟩
    obtain ⟨i, hi, b, d⟩ := (mt_append xs ys zs).1 h
    exact ⟨i, by omega, ⟨a, b⟩, c, d⟩

theorem fits_none (l : List Int) : fitsB [] l = l.isEmpty := by
  have : patB 32 [] = true := by decide
  rw [fitsB, this]; rfl

set_option maxRecDepth 100000 in
set_option maxHeartbeats 8000000 in
theorem law_joins (st st2 : Bool) (A A2 B : Option Addr) (m0 c0 m1 c1 n0 c2 : Nat) (xs0 ys0 : List (Int × Int)) (zs0 : List Int) (w : World) (hG : Globs w) (hx : Prs w w.heap.size A m0 xs0) (hy : Prs w w.heap.size A2 m1 ys0) (hz : Ints w w.heap.size B n0 zs0) (hc0 : m0 ≤ c0) (hc1 : m1 ≤ c1) (hc2 : n0 ≤ c2) (hA : A = none → c0 = 0) (hA2 : A2 = none → c1 = 0) :
    Calls Tryz.prog 5 #[.agg #[.bool st, .slice A m0 c0], .agg #[.bool st2, .slice A2 m1 c1], .slice B n0 c2] w fun e w' => e = .returned (.bool true) ∧ Below w.heap.size w w' := by
  go_enter Tryz.func5, Tryz.ntmps5
  go_wp2_with fail
  have hb0 : Below w.heap.size w ((w.alloc (.cells #[.bool st, .slice A m0 c0] 24)).alloc (.cells #[.bool st2, .slice A2 m1 c1] 24)) := by go_grown
  have k1 : ((w.alloc (.cells #[.bool st, .slice A m0 c0] 24)).alloc (.cells #[.bool st2, .slice A2 m1 c1] 24)).heap[w.heap.size + 1]? = some (.cells #[.bool st2, .slice A2 m1 c1] 24 (0, 0)) := heap_new (by simp)
  have k0 : ((w.alloc (.cells #[.bool st, .slice A m0 c0] 24)).alloc (.cells #[.bool st2, .slice A2 m1 c1] 24)).heap[w.heap.size]? = some (.cells #[.bool st, .slice A m0 c0] 24 (0, 0)) := by rw [heap_old (by simp)]; exact heap_new rfl
  refine (law_shown _ (hG.below hb0)).mono ?_
  rintro e w1 ⟨rfl, hb1⟩
  have q0 := (hb1.block _ (Array.getElem?_eq_some_iff.1 k0).1).trans k0
  have q1 := (hb1.block _ (Array.getElem?_eq_some_iff.1 k1).1).trans k1
  have hb2 : Below w.heap.size w w1 := hb0.trans (hb1.mono hb0.size)
  clear k0 k1 hb0 hb1
  have f00 := frozen_blk q0 0
  have f01 := frozen_blk q0 1
  have f10 := frozen_blk q1 0
  have f11 := frozen_blk q1 1
  have c00 := cell_blk q0 0
  have c01 := cell_blk q0 1
  have c10 := cell_blk q1 0
  have c11 := cell_blk q1 1
  simp only [List.getElem?_toArray, List.getElem?_cons_zero, List.getElem?_cons_succ] at c00 c01 c10 c11
  go_upto_region 6 with fail
  rw [show (min (m0 : Int) 5).toNat = min m0 5 by omega, show (min (m1 : Int) 5).toNat = min m1 5 by omega, show (min (n0 : Int) 20).toNat = min n0 20 by omega]
  have k0 := setCell_blk (setCell_blk q0 0 (.bool false)) 1 (.slice A (min m0 5) c0)
  have k1 : ((w1.setCell ⟨w.heap.size, 0, none⟩ (.bool false)).setCell ⟨w.heap.size, 1, none⟩ (.slice A (min m0 5) c0)).heap[w.heap.size + 1]? = some (.cells #[.bool st2, .slice A2 m1 c1] 24 (0, 0)) := by
    rw [Below.heap_setCell _ _ _ _ (Nat.succ_ne_self _), Below.heap_setCell _ _ _ _ (Nat.succ_ne_self _)]; exact q1
  have k2 := setCell_blk (setCell_blk k1 0 (.bool false)) 1 (.slice A2 (min m1 5) c1)
  have k3 : ((((w1.setCell ⟨w.heap.size, 0, none⟩ (.bool false)).setCell ⟨w.heap.size, 1, none⟩ (.slice A (min m0 5) c0)).setCell ⟨w.heap.size + 1, 0, none⟩ (.bool false)).setCell ⟨w.heap.size + 1, 1, none⟩ (.slice A2 (min m1 5) c1)).heap[w.heap.size]? = some (.cells #[.bool false, .slice A (min m0 5) c0] 24 (0, 0)) := by
    rw [Below.heap_setCell _ _ _ _ (Nat.ne_of_lt (Nat.lt_succ_self _)), Below.heap_setCell _ _ _ _ (Nat.ne_of_lt (Nat.lt_succ_self _))]; exact k0
  have hb5 : Below w.heap.size w ((((w1.setCell ⟨w.heap.size, 0, none⟩ (.bool false)).setCell ⟨w.heap.size, 1, none⟩ (.slice A (min m0 5) c0)).setCell ⟨w.heap.size + 1, 0, none⟩ (.bool false)).setCell ⟨w.heap.size + 1, 1, none⟩ (.slice A2 (min m1 5) c1)) :=
    (((hb2.setCell (p := ⟨w.heap.size, 0, none⟩) (Nat.le_refl _) _).setCell (p := ⟨w.heap.size, 1, none⟩) (Nat.le_refl _) _).setCell (p := ⟨w.heap.size + 1, 0, none⟩) (Nat.le_succ _) _).setCell (p := ⟨w.heap.size + 1, 1, none⟩) (Nat.le_succ _) _
  generalize ((((w1.setCell ⟨w.heap.size, 0, none⟩ (.bool false)).setCell ⟨w.heap.size, 1, none⟩ (.slice A (min m0 5) c0)).setCell ⟨w.heap.size + 1, 0, none⟩ (.bool false)).setCell ⟨w.heap.size + 1, 1, none⟩ (.slice A2 (min m1 5) c1)) = W at *
  have hxW := ((hx.below hb5).more hb5.size).take (min m0 5) (by omega)
  have hyW := ((hy.below hb5).more hb5.size).take (min m1 5) (by omega)
  have hzW := ((hz.below hb5).more hb5.size).take (min n0 20) (by omega)
  have hm : min m0 5 ≤ 5 := by omega
  have hm2 : min m1 5 ≤ 5 := by omega
  have hn : min n0 20 ≤ 20 := by omega
  have hnc : min n0 20 ≤ c2 := by omega
  have hAn : A = none → min m0 5 = 0 ∧ c0 = 0 := fun h => by have := hA h; omega
  have hAn2 : A2 = none → min m1 5 = 0 ∧ c1 = 0 := fun h => by have := hA2 h; omega
  generalize min m0 5 = m at *
  generalize min m1 5 = m2 at *
  generalize min n0 20 = n at *
  generalize xs0.take m = xs at *
  generalize ys0.take m2 = ys at *
  generalize zs0.take n = zs at *
  have r0 : W.heap[w.heap.size]? = some (.cells #[.bool false, .slice A m c0] 24 (0, 0)) := k3
  have r1 : W.heap[w.heap.size + 1]? = some (.cells #[.bool false, .slice A2 m2 c1] 24 (0, 0)) := k2
  have e00 : W.cell? ⟨w.heap.size, 0, none⟩ = some (.bool false) := cell_blk r0 0
  have e01 : W.cell? ⟨w.heap.size, 1, none⟩ = some (.slice A m c0) := cell_blk r0 1
  have e10 : W.cell? ⟨w.heap.size + 1, 0, none⟩ = some (.bool false) := cell_blk r1 0
  have e11 : W.cell? ⟨w.heap.size + 1, 1, none⟩ = some (.slice A2 m2 c1) := cell_blk r1 1
  clear k0 k1 k2 k3 q0 q1 hb2 f00 f01 f10 f11 c00 c01 c10 c11 hx hy hz hc0 hc1 hc2 hA hA2
  have hlt0 : w.heap.size < W.heap.size := (Array.getElem?_eq_some_iff.1 r0).1
  have hlt : w.heap.size + 1 < W.heap.size := (Array.getElem?_eq_some_iff.1 r1).1
  have hxl := hxW.len
  have hyl := hyW.len
  have hzl := hzW.len
  obtain ⟨i0, hi0, hz0, hz1, hz2⟩ := info_parts item_info
  have hxc := hxW.cells
  have hyc := hyW.cells
  have hown0 : W.drew.ownsRow W.heap.size 42 2 (.slice none 0 0) 0 [] := World.ownsRow_nil _ _ _ _
  have Hxc := Lib.hid hxc
  have Hyc := Lib.hid hyc
  clear hxc hyc
  go_region_held3 (fun V => V.cell? ⟨w.heap.size, 1, none⟩ = some (.slice A m c0) ∧ V.cell? ⟨w.heap.size + 1, 1, none⟩ = some (.slice A2 m2 c1))
    (first | exact ⟨by assumption, by assumption⟩ | fail)
    (first
      | (refine step_append_any rfl (.tmp 33) (.tmp 35) 22 rfl W.heap.size 42 i0 (.agg #[.int .i64 0, .int .i64 0]) 2 16 Tryz.underlying22 hi0 hz0 hz1 hz2 rfl (by decide) (.slice none 0 0) 0 [] (by simp [Act.eval]) hown0 A m c0 (itemVs xs) (by simp [Act.eval]) hAn (by rw [itemVs_len, hxl]) (fun ad h => Hxc.out ad h) (itemVs_one _) (by simp only [maxLen]; omega) (by omega) (Nat.le_refl _) ?_; intro v1 w8 hown8 hgrow; have hb8 : Below W.heap.size W w8 := ((Below.refl W.heap.size W).drew).grown hgrow (Nat.le_refl _) (fun i ei => by simp [Value.ownBlock] at ei); have t1 := (cellOf hb8 hlt0).trans e01; have t2 := (cellOf hb8 hlt).trans e11)
      | (refine step_append_any rfl (.tmp 36) (.tmp 38) 22 rfl W.heap.size 42 i0 (.agg #[.int .i64 0, .int .i64 0]) 2 16 Tryz.underlying22 hi0 hz0 hz1 hz2 rfl (by decide) v1 (0 + m) ([] ++ itemVs xs) (by simp [Act.eval]) hown8 A2 m2 c1 (itemVs ys) (by simp [Act.eval]) hAn2 (by rw [itemVs_len, hyl]) (fun ad h j u hj => ((hyW.below hb8).cells ad h j u hj)) (itemVs_one _) (by simp only [maxLen]; omega) (by omega) hb8.size ?_; intro v2 w9 hown9 hgrow9; have hb9 : Below W.heap.size W w9 := hb8.grown hgrow9 hb8.size (fun i ei => (row_data hown8 i ei).1); have t3 := (cellOf hb9 hlt0).trans e01; have t4 := (cellOf hb9 hlt).trans e11))
  have hl3 : (xs ++ ys).length = 0 + m + m2 := by rw [List.length_append]; omega
  have hownF : w9.ownsRow W.heap.size 42 2 v2 (xs ++ ys).length (itemVs (xs ++ ys)) := by
    rw [hl3, itemVs_append]; exact hown9
  obtain ⟨A3, n3, c3, rfl, hn3, hP3⟩ := prs_own hownF
  have hn10 : n3 ≤ 10 := by omega
  clear hownF hown9 hgrow9 hown8 hgrow hn3 hl3 hown0
  have hW9 := hb9
  go_upto_region 9 with fail
  generalize min (m0 : Int) 5 = z1
  generalize min (m1 : Int) 5 = z2
  generalize min (n0 : Int) 20 = z3
  have hfx : ∀ i, i ≤ n → ∀ W', Below W.heap.size W W' → Calls Tryz.prog 21 #[.agg #[.bool false, .slice A m c0], .slice B i c2] W' fun e w' => e = .returned (.bool (fitsB xs (zs.take i))) ∧ Below W'.heap.size W' w' := fun i hi W' hW' =>
    pattern_Fits false A B m c0 i c2 xs (zs.take i) W' ((hxW.below hW').more hW'.size) (((hzW.below hW').more hW'.size).take i hi) (by omega) (by omega)
  have hfy : ∀ i, i ≤ n → ∀ W', Below W.heap.size W W' → Calls Tryz.prog 21 #[.agg #[.bool false, .slice A2 m2 c1], .slice (if c2 = i then B else Option.map (fun x => x.add i) B) (n - i) (c2 - i)] W' fun e w' => e = .returned (.bool (fitsB ys (seg zs i n))) ∧ Below W'.heap.size W' w' := fun i hi W' hW' =>
    pattern_Fits false A2 _ m2 c1 (n - i) (c2 - i) ys (seg zs i n) W' ((hyW.below hW').more hW'.size) (((hzW.below hW').more hW'.size).sub hnc i n hi (Nat.le_refl _)) (by omega) (by omega)
  have Hfx := Lib.hid hfx
  have Hfy := Lib.hid hfy
  clear hfx hfy Hxc Hyc t1 t2 t3 t4 hb8 hxW hyW
  go_loopw [9, 10] (fun v i wr => ∃ (j : Nat) (b : Bool), j ≤ n + 1 ∧ i = .int .i64 (j : Int) ∧ v = .bool b ∧ b = ((List.range j).any fun i => fitsB xs (zs.take i) && fitsB ys (seg zs i n)) ∧ Below w9.heap.size w9 wr) (fun _ i _ => n + 1 - (RowKit.intOf i).toNat)
  case atStart => exact ⟨0, false, Nat.zero_le _, rfl, rfl, rfl, Below.refl _ _⟩
  case round =>
    obtain ⟨j, b, hj, rfl, rfl, hb, hbr9⟩ := hrel
    have Hb := Lib.hid hb
    have hbr : Below W.heap.size W wr := hW9.trans (hbr9.mono hW9.size)
    have q00 := (cellOf hbr hlt0).trans e00
    have q01 := (cellOf hbr hlt0).trans e01
    have q10 := (cellOf hbr hlt).trans e10
    have q11 := (cellOf hbr hlt).trans e11
    clear hb
    rcases Nat.lt_or_ge j (n + 1) with hjn | hge
    · have hj2 : j ≤ n := by omega
      have hjc : j ≤ c2 := by omega
      have s1 : (0 : Int) ≤ (j : Int) := by omega
      have s2 : (j : Int) ≤ (n : Int) := by omega
      have s3 : (j : Int) ≤ (c2 : Int) := by omega
      have hstep : ((List.range (j + 1)).any fun i => fitsB xs (zs.take i) && fitsB ys (seg zs i n)) = (b || (fitsB xs (zs.take j) && fitsB ys (seg zs j n))) := by
        rw [List.range_succ, List.any_append, Hb.out]; simp
      have Hstep := Lib.hid hstep
      clear hstep
      rcases b with _ | _
      · have hF := Hfx.out j hj2 wr.drew hbr.drew
        rcases hf1 : fitsB xs (zs.take j) with _ | _
        · rw [hf1] at hF Hstep
          go_upto_region 11 with fail
          refine wp_region_noPanic ?_
          refine wp_region_held_drew (S := (fun V => V.cell? ⟨w.heap.size, 0, none⟩ = some (.bool false) ∧ V.cell? ⟨w.heap.size, 1, none⟩ = some (.slice A m c0) ∧ V.cell? ⟨w.heap.size + 1, 0, none⟩ = some (.bool false) ∧ V.cell? ⟨w.heap.size + 1, 1, none⟩ = some (.slice A2 m2 c1))) (by kernel_rfl) ⟨q00, q01, q10, q11⟩ (fun hHeld => ?_)
          refine wpAnyH_take (i := 0) (v := .bool false) rfl (by kernel_rfl) (by kernel_rfl) (by kernel_rfl) (fun _ _ _ h => h) (.inl ⟨by rfl, fun V hV => by obtain ⟨c0, c1, c2, c3⟩ := hV; go_simp⟩) hHeld ?_
          try simp only [Act.put, List.setIfInBounds_toArray, List.set_cons_zero, List.set_cons_succ]
          refine wpAnyH_take (i := 1) (v := .bool false) rfl (by kernel_rfl) (by kernel_rfl) (by kernel_rfl) (fun _ _ _ h => h) (.inl ⟨by rfl, fun V hV => by obtain ⟨c0, c1, c2, c3⟩ := hV; go_simp⟩) hHeld ?_
          try simp only [Act.put, List.setIfInBounds_toArray, List.set_cons_zero, List.set_cons_succ]
          refine wpAnyH_take (i := 2) (v := .agg #[.bool false, .slice A m c0]) rfl (by kernel_rfl) (by kernel_rfl) (by kernel_rfl) (fun _ _ _ h => h) (.inl ⟨by rfl, fun V hV => by obtain ⟨c0, c1, c2, c3⟩ := hV; go_simp⟩) hHeld ?_
          try simp only [Act.put, List.setIfInBounds_toArray, List.set_cons_zero, List.set_cons_succ]
          refine wpAnyH_take (i := 3) (v := .slice B n c2) rfl (by kernel_rfl) (by kernel_rfl) (by kernel_rfl) (fun _ _ _ h => h) (.inl ⟨by rfl, fun V hV => by obtain ⟨c0, c1, c2, c3⟩ := hV; go_simp⟩) hHeld ?_
          try simp only [Act.put, List.setIfInBounds_toArray, List.set_cons_zero, List.set_cons_succ]
          refine wpAnyH_take (i := 4) (v := .int .i64 (j : Int)) rfl (by kernel_rfl) (by kernel_rfl) (by kernel_rfl) (fun _ _ _ h => h) (.inl ⟨by rfl, fun V hV => by obtain ⟨c0, c1, c2, c3⟩ := hV; go_simp⟩) hHeld ?_
          try simp only [Act.put, List.setIfInBounds_toArray, List.set_cons_zero, List.set_cons_succ]
          refine wpAnyH_take (i := 5) (v := .slice B j c2) rfl (by kernel_rfl) (by kernel_rfl) (by kernel_rfl) (fun _ _ _ h => h) (.inl ⟨by rfl, fun V hV => by obtain ⟨c0, c1, c2, c3⟩ := hV; go_simp⟩) hHeld ?_
          try simp only [Act.put, List.setIfInBounds_toArray, List.set_cons_zero, List.set_cons_succ]
          refine wpAnyH_ready (rs := [6]) (by kernel_rfl) (by simp) ?_
          refine AllReadyH.cons rfl (fun K hK => ?_) AllReadyH.nil
          go_simp
          refine (hF).mono ?_
          rintro e w3 ⟨rfl, hbA⟩
          have t2 : Below W.heap.size W w3 := (hbr.drew).trans (hbA.mono hbr.size)
          have u2 : Below w9.heap.size w9 w3 := (hbr9.drew).trans (hbA.mono hbr9.size)
          have t00 := (cellOf t2 hlt0).trans e00
          have t01 := (cellOf t2 hlt0).trans e01
          have t10 := (cellOf t2 hlt).trans e10
          have t11 := (cellOf t2 hlt).trans e11
          refine hK.out _ _ ⟨t00, t01, t10, t11⟩ (fun hHeld => ?_)
          clear hK K
          try simp only [Act.put, List.setIfInBounds_toArray, List.set_cons_zero, List.set_cons_succ]
          refine wpAnyH_take (i := 7) (v := .bool false) rfl (by kernel_rfl) (by kernel_rfl) (by kernel_rfl) (fun _ _ _ h => h) (.inl ⟨by rfl, fun V hV => by obtain ⟨c0, c1, c2, c3⟩ := hV; go_simp⟩) hHeld ?_
          try simp only [Act.put, List.setIfInBounds_toArray, List.set_cons_zero, List.set_cons_succ]
          refine wpAnyH_take (i := 8) (v := undef) rfl (by kernel_rfl) (by kernel_rfl) (by kernel_rfl) (fun _ _ _ h => h) (.inr ⟨by rfl, rfl⟩) hHeld ?_
          try simp only [Act.put, List.setIfInBounds_toArray, List.set_cons_zero, List.set_cons_succ]
          refine wpAnyH_take (i := 9) (v := undef) rfl (by kernel_rfl) (by kernel_rfl) (by kernel_rfl) (fun _ _ _ h => h) (.inr ⟨by rfl, rfl⟩) hHeld ?_
          try simp only [Act.put, List.setIfInBounds_toArray, List.set_cons_zero, List.set_cons_succ]
          refine wpAnyH_take (i := 10) (v := undef) rfl (by kernel_rfl) (by kernel_rfl) (by kernel_rfl) (fun _ _ _ h => h) (.inr ⟨by rfl, rfl⟩) hHeld ?_
          try simp only [Act.put, List.setIfInBounds_toArray, List.set_cons_zero, List.set_cons_succ]
          refine wpAnyH_take (i := 11) (v := undef) rfl (by kernel_rfl) (by kernel_rfl) (by kernel_rfl) (fun _ _ _ h => h) (.inr ⟨by rfl, rfl⟩) hHeld ?_
          try simp only [Act.put, List.setIfInBounds_toArray, List.set_cons_zero, List.set_cons_succ]
          refine wpAnyH_ready (rs := [12]) (by kernel_rfl) (by simp) ?_
          refine AllReadyH.cons rfl (fun K hK => ?_) AllReadyH.nil
          go_simp
          refine hK.out _ _ hHeld (fun hHeld => ?_)
          clear hK K
          try simp only [Act.put, List.setIfInBounds_toArray, List.set_cons_zero, List.set_cons_succ]
          refine wpAnyH_take (i := 13) (v := .bool false) rfl (by kernel_rfl) (by kernel_rfl) (by kernel_rfl) (fun _ _ _ h => h) (.inl ⟨by rfl, fun V hV => by obtain ⟨c0, c1, c2, c3⟩ := hV; go_simp⟩) hHeld ?_
          try simp only [Act.put, List.setIfInBounds_toArray, List.set_cons_zero, List.set_cons_succ]
          refine wpAnyH_take (i := 14) (v := .bool false) rfl (by kernel_rfl) (by kernel_rfl) (by kernel_rfl) (fun _ _ _ h => h) (.inl ⟨by rfl, fun V hV => by obtain ⟨c0, c1, c2, c3⟩ := hV; go_simp⟩) hHeld ?_
          try simp only [Act.put, List.setIfInBounds_toArray, List.set_cons_zero, List.set_cons_succ]
          refine wpAnyH_take (i := 15) (v := .bool false) rfl (by kernel_rfl) (by kernel_rfl) (by kernel_rfl) (fun _ _ _ h => h) (.inl ⟨by rfl, fun V hV => by obtain ⟨c0, c1, c2, c3⟩ := hV; go_simp⟩) hHeld ?_
          try simp only [Act.put, List.setIfInBounds_toArray, List.set_cons_zero, List.set_cons_succ]
          refine wpAnyH_done (by kernel_rfl) ?_ _
          refine NoPanic.normal ?_
          all_goals
            go_wp2
            go_roundw
            case rel => first | exact ⟨j + 1, _, by omega, by go_num, rfl, by rw [Hstep.out]; rfl, u2⟩ | ((repeat apply Exists.intro); refine And.intro ?_ rfl; exact ⟨j + 1, _, by omega, by go_num, rfl, by rw [Hstep.out]; rfl, u2⟩)
            case measure => simp [RowKit.intOf]; omega
        · rw [hf1] at hF Hstep
          go_upto_region 11 with fail
          refine wp_region_noPanic ?_
          refine wp_region_held_drew (S := (fun V => V.cell? ⟨w.heap.size, 0, none⟩ = some (.bool false) ∧ V.cell? ⟨w.heap.size, 1, none⟩ = some (.slice A m c0) ∧ V.cell? ⟨w.heap.size + 1, 0, none⟩ = some (.bool false) ∧ V.cell? ⟨w.heap.size + 1, 1, none⟩ = some (.slice A2 m2 c1))) (by kernel_rfl) ⟨q00, q01, q10, q11⟩ (fun hHeld => ?_)
          refine wpAnyH_take (i := 0) (v := .bool false) rfl (by kernel_rfl) (by kernel_rfl) (by kernel_rfl) (fun _ _ _ h => h) (.inl ⟨by rfl, fun V hV => by obtain ⟨c0, c1, c2, c3⟩ := hV; go_simp⟩) hHeld ?_
          try simp only [Act.put, List.setIfInBounds_toArray, List.set_cons_zero, List.set_cons_succ]
          refine wpAnyH_take (i := 1) (v := .bool false) rfl (by kernel_rfl) (by kernel_rfl) (by kernel_rfl) (fun _ _ _ h => h) (.inl ⟨by rfl, fun V hV => by obtain ⟨c0, c1, c2, c3⟩ := hV; go_simp⟩) hHeld ?_
          try simp only [Act.put, List.setIfInBounds_toArray, List.set_cons_zero, List.set_cons_succ]
          refine wpAnyH_take (i := 2) (v := .agg #[.bool false, .slice A m c0]) rfl (by kernel_rfl) (by kernel_rfl) (by kernel_rfl) (fun _ _ _ h => h) (.inl ⟨by rfl, fun V hV => by obtain ⟨c0, c1, c2, c3⟩ := hV; go_simp⟩) hHeld ?_
          try simp only [Act.put, List.setIfInBounds_toArray, List.set_cons_zero, List.set_cons_succ]
          refine wpAnyH_take (i := 3) (v := .slice B n c2) rfl (by kernel_rfl) (by kernel_rfl) (by kernel_rfl) (fun _ _ _ h => h) (.inl ⟨by rfl, fun V hV => by obtain ⟨c0, c1, c2, c3⟩ := hV; go_simp⟩) hHeld ?_
          try simp only [Act.put, List.setIfInBounds_toArray, List.set_cons_zero, List.set_cons_succ]
          refine wpAnyH_take (i := 4) (v := .int .i64 (j : Int)) rfl (by kernel_rfl) (by kernel_rfl) (by kernel_rfl) (fun _ _ _ h => h) (.inl ⟨by rfl, fun V hV => by obtain ⟨c0, c1, c2, c3⟩ := hV; go_simp⟩) hHeld ?_
          try simp only [Act.put, List.setIfInBounds_toArray, List.set_cons_zero, List.set_cons_succ]
          refine wpAnyH_take (i := 5) (v := .slice B j c2) rfl (by kernel_rfl) (by kernel_rfl) (by kernel_rfl) (fun _ _ _ h => h) (.inl ⟨by rfl, fun V hV => by obtain ⟨c0, c1, c2, c3⟩ := hV; go_simp⟩) hHeld ?_
          try simp only [Act.put, List.setIfInBounds_toArray, List.set_cons_zero, List.set_cons_succ]
          refine wpAnyH_ready (rs := [6]) (by kernel_rfl) (by simp) ?_
          refine AllReadyH.cons rfl (fun K hK => ?_) AllReadyH.nil
          go_simp
          refine (hF).mono ?_
          rintro e w3 ⟨rfl, hbA⟩
          have t2 : Below W.heap.size W w3 := (hbr.drew).trans (hbA.mono hbr.size)
          have u2 : Below w9.heap.size w9 w3 := (hbr9.drew).trans (hbA.mono hbr9.size)
          have t00 := (cellOf t2 hlt0).trans e00
          have t01 := (cellOf t2 hlt0).trans e01
          have t10 := (cellOf t2 hlt).trans e10
          have t11 := (cellOf t2 hlt).trans e11
          refine hK.out _ _ ⟨t00, t01, t10, t11⟩ (fun hHeld => ?_)
          clear hK K
          try simp only [Act.put, List.setIfInBounds_toArray, List.set_cons_zero, List.set_cons_succ]
          refine wpAnyH_take (i := 7) (v := .bool true) rfl (by kernel_rfl) (by kernel_rfl) (by kernel_rfl) (fun _ _ _ h => h) (.inl ⟨by rfl, fun V hV => by obtain ⟨c0, c1, c2, c3⟩ := hV; go_simp⟩) hHeld ?_
          try simp only [Act.put, List.setIfInBounds_toArray, List.set_cons_zero, List.set_cons_succ]
          refine wpAnyH_take (i := 8) (v := .agg #[.bool false, .slice A2 m2 c1]) rfl (by kernel_rfl) (by kernel_rfl) (by kernel_rfl) (fun _ _ _ h => h) (.inl ⟨by rfl, fun V hV => by obtain ⟨c0, c1, c2, c3⟩ := hV; go_simp⟩) hHeld ?_
          try simp only [Act.put, List.setIfInBounds_toArray, List.set_cons_zero, List.set_cons_succ]
          refine wpAnyH_take (i := 9) (v := .slice B n c2) rfl (by kernel_rfl) (by kernel_rfl) (by kernel_rfl) (fun _ _ _ h => h) (.inl ⟨by rfl, fun V hV => by obtain ⟨c0, c1, c2, c3⟩ := hV; go_simp⟩) hHeld ?_
          try simp only [Act.put, List.setIfInBounds_toArray, List.set_cons_zero, List.set_cons_succ]
          refine wpAnyH_take (i := 10) (v := .int .i64 (j : Int)) rfl (by kernel_rfl) (by kernel_rfl) (by kernel_rfl) (fun _ _ _ h => h) (.inl ⟨by rfl, fun V hV => by obtain ⟨c0, c1, c2, c3⟩ := hV; go_simp⟩) hHeld ?_
          try simp only [Act.put, List.setIfInBounds_toArray, List.set_cons_zero, List.set_cons_succ]
          refine wpAnyH_take (i := 11) (v := .slice (if c2 = j then B else Option.map (fun x => x.add j) B) (n - j) (c2 - j)) rfl (by kernel_rfl) (by kernel_rfl) (by kernel_rfl) (fun _ _ _ h => h) (.inl ⟨by rfl, fun V hV => by obtain ⟨c0, c1, c2, c3⟩ := hV; go_simp⟩) hHeld ?_
          try simp only [Act.put, List.setIfInBounds_toArray, List.set_cons_zero, List.set_cons_succ]
          refine wpAnyH_ready (rs := [12]) (by kernel_rfl) (by simp) ?_
          refine AllReadyH.cons rfl (fun K hK => ?_) AllReadyH.nil
          go_simp
          refine (Hfy.out j hj2 w3 t2).mono ?_
          generalize (if c2 = j then B else Option.map (fun x => x.add j) B) = B'
          rintro e w4 ⟨rfl, hbB⟩
          have t3 : Below W.heap.size W w4 := t2.trans (hbB.mono t2.size)
          have u3 : Below w9.heap.size w9 w4 := u2.trans (hbB.mono u2.size)
          have t20 := (cellOf t3 hlt0).trans e00
          have t21 := (cellOf t3 hlt0).trans e01
          have t30 := (cellOf t3 hlt).trans e10
          have t31 := (cellOf t3 hlt).trans e11
          refine hK.out _ _ ⟨t20, t21, t30, t31⟩ (fun hHeld => ?_)
          clear hK K
          try simp only [Act.put, List.setIfInBounds_toArray, List.set_cons_zero, List.set_cons_succ]
          refine wpAnyH_take (i := 13) (v := .bool (fitsB ys (seg zs j n))) rfl (by kernel_rfl) (by kernel_rfl) (by kernel_rfl) (fun _ _ _ h => h) (.inl ⟨by rfl, fun V hV => by obtain ⟨c0, c1, c2, c3⟩ := hV; go_simp⟩) hHeld ?_
          try simp only [Act.put, List.setIfInBounds_toArray, List.set_cons_zero, List.set_cons_succ]
          refine wpAnyH_take (i := 14) (v := .bool (fitsB ys (seg zs j n))) rfl (by kernel_rfl) (by kernel_rfl) (by kernel_rfl) (fun _ _ _ h => h) (.inl ⟨by rfl, fun V hV => by obtain ⟨c0, c1, c2, c3⟩ := hV; go_simp⟩) hHeld ?_
          try simp only [Act.put, List.setIfInBounds_toArray, List.set_cons_zero, List.set_cons_succ]
          refine wpAnyH_take (i := 15) (v := .bool (fitsB ys (seg zs j n))) rfl (by kernel_rfl) (by kernel_rfl) (by kernel_rfl) (fun _ _ _ h => h) (.inl ⟨by rfl, fun V hV => by obtain ⟨c0, c1, c2, c3⟩ := hV; go_simp⟩) hHeld ?_
          try simp only [Act.put, List.setIfInBounds_toArray, List.set_cons_zero, List.set_cons_succ]
          refine wpAnyH_done (by kernel_rfl) ?_ _
          refine NoPanic.normal ?_
          all_goals
            go_wp2
            go_roundw
            case rel => first | exact ⟨j + 1, _, by omega, by go_num, rfl, by rw [Hstep.out]; rfl, u3⟩ | ((repeat apply Exists.intro); refine And.intro ?_ rfl; exact ⟨j + 1, _, by omega, by go_num, rfl, by rw [Hstep.out]; rfl, u3⟩)
            case measure => simp [RowKit.intOf]; omega
      · go_upto_region 11 with fail
        go_quiet (fail)
        go_wp2
        go_roundw
        case rel => exact ⟨j + 1, _, by omega, by go_num, rfl, by rw [Hstep.out]; rfl, hbr9.trans (below_drewN _ _ _)⟩
        case measure => simp [RowKit.intOf]; omega
    · obtain rfl : j = n + 1 := by omega
      have hb2 := Hb.out
      rw [← hzl] at hb2
      rw [joins_any (by omega) (by omega)] at hb2
      have hF1 := pattern_Fits false A3 B n3 c3 n c2 (xs ++ ys) zs wr ((hP3.below hbr9).more hbr9.size) ((hzW.below hbr).more hbr.size) (by omega) (by omega)
      rw [← hb2] at hF1
      have hF2 := fun W' => pattern_Fits false none none 0 0 0 0 [] [] W' (Prs.nil _ _ _) (Ints.nil _ _ _) (by omega) (by omega)
      have hF3 := fun W' (hW' : Below W.heap.size W W') => pattern_Fits false none B 0 0 n c2 [] zs W' (Prs.nil _ _ _) ((hzW.below hW').more hW'.size) (by omega) (by omega)
      rw [fits_none] at hF2 hF3
      have HF2 := Lib.hid hF2
      have HF3 := Lib.hid hF3
      clear hF2 hF3 hb2 Hb Hfx Hfy
      rcases hn0 : ((n : Int) == 0) with _ | _
      · have hze : zs.isEmpty = false := by
          rw [beq_eq_false_iff_ne] at hn0
          rcases zs with _ | ⟨z, t⟩
          · simp at hzl; omega
          · rfl
        go_wp2_with fail
        refine hF1.mono ?_
        rintro e W5 ⟨rfl, hbA⟩
        have t2 : Below W.heap.size W W5 := hbr.trans (hbA.mono hbr.size)
        have hF2 := HF2.out W5
        clear hF1
        go_wp2_with fail
        refine hF2.mono ?_
        rintro e W6 ⟨rfl, hbB⟩
        have t3 : Below W.heap.size W W6 := t2.trans (hbB.mono t2.size)
        have hF3 := HF3.out W6 t3
        rw [hze] at hF3
        clear hF2
        go_wp2_with fail
        refine hF3.mono ?_
        rintro e W7 ⟨rfl, hbC⟩
        have t4 : Below W.heap.size W W7 := t3.trans (hbC.mono t3.size)
        clear hF3
        go_wp2_with fail
        go_ret
        exact ⟨rfl, hb5.trans (t4.mono hb5.size)⟩
      · go_wp2_with fail
        refine hF1.mono ?_
        rintro e W5 ⟨rfl, hbA⟩
        have t2 : Below W.heap.size W W5 := hbr.trans (hbA.mono hbr.size)
        have hF2 := HF2.out W5
        clear hF1
        go_wp2_with fail
        refine hF2.mono ?_
        rintro e W6 ⟨rfl, hbB⟩
        have t3 : Below W.heap.size W W6 := t2.trans (hbB.mono t2.size)
        clear hF2
        go_wp2_with fail
        go_ret
        exact ⟨rfl, hb5.trans (t3.mono hb5.size)⟩
end Go.Vir
