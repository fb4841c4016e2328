/- viramalaw09: PatternWider. -/
import Derived.Test.YtiedahfminhnbaaGreatDoorWa
import Derived.Test.YtiedahfminhnbaaGreatDoorField
import Derived.Deep.RegionLaw
namespace Go.Vir
open Go Go.RowKit Go.Proofs Go.Shelf
attribute [local go_sem] Oper.semAt_some

theorem step_append_mine {P : Program} {ops : Array Oper} {o : Oper} {a : Act} {w : World} {K : Act → World → Prop} {Q : Exit → Act → World → Prop} {E : Prop}
    (hg : o.guard = none) (s x : Operand) (t : TypeId) (hop : o.op = Op.call { callee := Callee.builtin Builtin.append, args := #[s, x], argTypes := #[t, t] })
    (base : Nat) (e : TypeId) (i : TypeInfo) (z : Value) (size bytes : Nat) (h1 : P.underlying t = some (.slice e)) (h2 : P.info? e = some i) (h3 : i.zero = some z) (h4 : i.size = size) (h5 : i.bytes = bytes) (h6 : z.cells.size = size) (h7 : 0 < size)
    (v : Value) (n : Nat) (xs : List Value) (hs : a.eval s = v) (hown : w.ownsRow base e size v n xs)
    (ad : Addr) (m c : Nat) (news : List Value) (hx : a.eval x = .slice (some ad) m c) (hn : news.length = m * size) (hc : ∀ j u, news[j]? = some u → w.cell? (ad.add j) = some u) (h1c : ∀ u ∈ news, u.oneCell' = true)
    (b1 : n + m ≤ maxLen) (b2 : (n + m) * bytes ≤ 140737488355328) (hbase : base ≤ w.heap.size)
    (hK : ∀ v' w', w'.ownsRow base e size v' (n + m) (xs ++ news) → w.grownBy w' v.ownBlock → K (a.put o.dst v') w') :
    if Region.wanted o (yielded ops a.tmps) = true then Oper.wp P o a w K Q else E := by
  have hw : Region.wanted o (yielded ops a.tmps) = true := by simp [Region.wanted, hg]
  rw [if_pos hw]
  obtain ⟨v', w', hrun, r1, r2, _⟩ := run_append_own (P := P) w base t o.type e i z size bytes h1 h2 h3 h4 h5 h6 h7 v n xs hown ad m c news hn hc h1c b1 b2 hbase
  unfold Oper.wp
  simp [execOp, hop, resolve, invoke, builtin, hs, hx, hrun, Result.andThen]
  exact hK v' w' r1 r2

theorem cell_two_new (W : World) (x y : Value) (t : TypeId) : ∀ (j : Nat) (u : Value), [x, y][j]? = some u → (W.alloc (.cells #[x, y] t)).cell? ((⟨W.heap.size, 0, none⟩ : Addr).add j) = some u := by
  have e : (W.alloc (.cells #[x, y] t)).heap[W.heap.size]? = some (.cells #[x, y] t (0, 0)) := heap_new rfl
  intro j u hj
  match j, hj with
  | 0, hj => exact (cell_blk e 0).trans (by simpa using hj)
  | 1, hj => exact (cell_blk e 1).trans (by simpa using hj)

def widerL (s : Int) (xs : List (Int × Int)) : List (Int × Int) := xs.map fun x => (bits .or .i64 x.1 s, x.2)

theorem or_nat (a b : Nat) (ha : a < 2 ^ 32) (hb : b < 2 ^ 32) : bits .or .i64 (a : Int) (b : Int) = ((a ||| b : Nat) : Int) := by
  have hab : a ||| b < 2 ^ 32 := Nat.or_lt_two_pow ha hb
  show IntKind.i64.wrap ((BitVec.ofInt 64 (a : Int) ||| BitVec.ofInt 64 (b : Int)).toNat : Int) = _
  rw [show BitVec.ofInt 64 (a : Int) = BitVec.ofNat 64 a from BitVec.ofInt_natCast _ _, show BitVec.ofInt 64 (b : Int) = BitVec.ofNat 64 b from BitVec.ofInt_natCast _ _, BitVec.toNat_or, BitVec.toNat_ofNat, BitVec.toNat_ofNat,
    Nat.mod_eq_of_lt (by omega), Nat.mod_eq_of_lt (by omega), wraps_i64 _ (by omega) (by omega)]

theorem bit_nat (a k : Nat) : bitB (a : Int) (k : Int) = true ↔ a < 2 ^ 32 ∧ k < 32 ∧ a.testBit k = true := by
  have e : ((a : Int) / 2 ^ k % 2) = ((a / 2 ^ k % 2 : Nat) : Int) := by simp
  rw [Nat.testBit_eq_decide_div_mod_eq]
  simp only [bitB, rightB, Bool.and_eq_true, decide_eq_true_eq, beq_iff_eq, Int.toNat_natCast, Int.reduceToNat, e]
  constructor
  · rintro ⟨⟨_, _, _, h1⟩, _, h2, h3⟩; exact ⟨by omega, by omega, by omega⟩
  · rintro ⟨h1, h2, h3⟩; exact ⟨⟨by decide, by decide, by omega, by omega⟩, by omega, by omega, by omega⟩

theorem right_or {s x : Int} (h0 : 0 ≤ s) (h1 : s < 4294967296) (h : rightB x 32 = true) : rightB (bits .or .i64 x s) 32 = true := by
  simp only [rightB, Bool.and_eq_true, decide_eq_true_eq, Int.reduceToNat] at h
  obtain ⟨a, rfl⟩ := Int.eq_ofNat_of_zero_le h.2.2.1
  obtain ⟨b, rfl⟩ := Int.eq_ofNat_of_zero_le h0
  have ha : a < 2 ^ 32 := by omega
  have hb : b < 2 ^ 32 := by omega
  rw [or_nat a b ha hb]
  have := Nat.or_lt_two_pow ha hb
  simp only [rightB, Bool.and_eq_true, decide_eq_true_eq, Int.reduceToNat]
  exact ⟨by decide, by decide, by omega, by omega⟩

theorem bit_or {s x c : Int} (h0 : 0 ≤ s) (h1 : s < 4294967296) (h : bitB x c = true) : bitB (bits .or .i64 x s) c = true := by
  have h' := h
  simp only [bitB, rightB, Bool.and_eq_true, decide_eq_true_eq, Int.reduceToNat] at h'
  obtain ⟨a, rfl⟩ := Int.eq_ofNat_of_zero_le h'.1.2.2.1
  obtain ⟨b, rfl⟩ := Int.eq_ofNat_of_zero_le h0
  obtain ⟨k, rfl⟩ := Int.eq_ofNat_of_zero_le h'.2.1
  obtain ⟨ha, hk, ht⟩ := (bit_nat a k).1 h
  have hb : b < 2 ^ 32 := by omega
  rw [or_nat a b ha hb]
  exact (bit_nat _ k).2 ⟨Nat.or_lt_two_pow ha hb, hk, by rw [Nat.testBit_or, ht]; rfl⟩

theorem one_wider {s : Int} (h0 : 0 ≤ s) (h1 : s < 4294967296) (x : Int × Int) (l : List Int) (h : oneB x l = true) : oneB (bits .or .i64 x.1 s, x.2) l = true := by
  simp only [oneB, Bool.and_eq_true, List.all_eq_true] at h ⊢
  exact ⟨fun c hc => bit_or h0 h1 (h.1 c hc), h.2⟩

theorem mt_wider {s : Int} (h0 : 0 ≤ s) (h1 : s < 4294967296) : ∀ (xs : List (Int × Int)) (l : List Int), mtB xs l = true → mtB (widerL s xs) l = true
  | [], l, h => h
  | x :: xs, l, h => by
    simp only [widerL, List.map_cons, mtB, List.any_eq_true, List.mem_range, Bool.and_eq_true] at h ⊢
    obtain ⟨k, hk, h2, h3⟩ := h
    exact ⟨k, hk, one_wider h0 h1 x _ h2, mt_wider h0 h1 xs _ h3⟩

theorem wider_fits {s : Int} {xs : List (Int × Int)} {l : List Int} (h0 : 0 ≤ s) (h1 : s < 4294967296) (h : fitsB xs l = true) : fitsB (widerL s xs) l = true := by
  simp only [fitsB, patB, Bool.and_eq_true, decide_eq_true_eq, List.all_eq_true] at h ⊢
  obtain ⟨⟨a1, a2, a3, a4⟩, a5⟩ := h
  refine ⟨⟨a1, a2, by simpa [widerL] using a3, fun y hy => ?_⟩, mt_wider h0 h1 _ _ a5⟩
  obtain ⟨x, hx, rfl⟩ := List.mem_map.1 hy
  have := a4 x hx
  simp only [itemB, Bool.and_eq_true, decide_eq_true_eq] at this ⊢
  exact ⟨this.1, this.2.1, right_or h0 h1 this.2.2⟩

set_option maxRecDepth 100000 in
set_option maxHeartbeats 4000000 in
theorem law_wider (st : Bool) (A B : Option Addr) (m0 c0 n0 c1 : Nat) (xs0 : List (Int × Int)) (zs0 : List Int) (s : Int) (w : World) (hG : Globs w) (hx : Prs w w.heap.size A m0 xs0) (hz : Ints w w.heap.size B n0 zs0) (hc0 : m0 ≤ c0) (hc1 : n0 ≤ c1) :
    Calls Tryz.prog 6 #[.agg #[.bool st, .slice A m0 c0], .slice B n0 c1, .int .i64 s] w fun e w' => e = .returned (.bool true) ∧ Below w.heap.size w w' := by
  go_enter Tryz.func6, Tryz.ntmps6
  go_wp2_with fail
  have hb0 : Below w.heap.size w (w.alloc (.cells #[.bool st, .slice A m0 c0] 24)) := by go_grown
  have k0 : (w.alloc (.cells #[.bool st, .slice A m0 c0] 24)).heap[w.heap.size]? = some (.cells #[.bool st, .slice A m0 c0] 24 (0, 0)) := heap_new rfl
  refine (law_shown _ (hG.below hb0)).mono ?_
  rintro e w1 ⟨rfl, hb1⟩
  have k1 := (hb1.block _ (Array.getElem?_eq_some_iff.1 k0).1).trans k0
  have hb2 : Below w.heap.size w w1 := hb0.trans (hb1.mono hb0.size)
  clear k0 hb0 hb1
  have c10 := cell_blk k1 0
  have c11 := cell_blk k1 1
  simp only [List.getElem?_toArray, List.getElem?_cons_zero, List.getElem?_cons_succ] at c10 c11
  have hC := law_Cut st A m0 c0 w1 hc0
  go_wp2_with fail
  refine hC.mono ?_
  rintro e w2 ⟨rfl, hb3⟩
  have k2 := (hb3.block _ (Array.getElem?_eq_some_iff.1 k1).1).trans k1
  have hb4 : Below w.heap.size w w2 := hb2.trans (hb3.mono hb2.size)
  have f0 := frozen_blk k2 0
  have f1 := frozen_blk k2 1
  have c20 := cell_blk k2 0
  have c21 := cell_blk k2 1
  simp only [List.getElem?_toArray, List.getElem?_cons_zero, List.getElem?_cons_succ] at c20 c21
  clear hb3 k1 c10 c11 hC hb2
  go_wp2_with fail
  refine (law_few B n0 c1 _ hc1).mono ?_
  rintro e w3' ⟨rfl, rfl⟩
  have k3 := setCell_blk (setCell_blk k2 0 (.bool st)) 1 (.slice A (min m0 12) c0)
  have hb5 : Below w.heap.size w ((w2.setCell ⟨w.heap.size, 0, none⟩ (.bool st)).setCell ⟨w.heap.size, 1, none⟩ (.slice A (min m0 12) c0)) := (hb4.setCell (p := ⟨w.heap.size, 0, none⟩) (Nat.le_refl _) _).setCell (p := ⟨w.heap.size, 1, none⟩) (Nat.le_refl _) _
  generalize ((w2.setCell ⟨w.heap.size, 0, none⟩ (.bool st)).setCell ⟨w.heap.size, 1, none⟩ (.slice A (min m0 12) c0)) = W at *
  have hxW := ((hx.below hb5).more hb5.size).take (min m0 12) (by omega)
  have hzW := ((hz.below hb5).more hb5.size).take (min n0 40) (by omega)
  have hm : min m0 12 ≤ 12 := by omega
  have hn : min n0 40 ≤ 40 := by omega
  generalize min m0 12 = m at *
  generalize min n0 40 = n at *
  generalize xs0.take m = xs at *
  generalize zs0.take n = zs at *
  have r3 : W.heap[w.heap.size]? = some (.cells #[.bool st, .slice A m c0] 24 (0, 0)) := k3
  clear k2 k3 hb4 f0 f1 c20 c21 hc0 hc1 hx hz
  have hlt : w.heap.size < W.heap.size := (Array.getElem?_eq_some_iff.1 r3).1
  have hxl := hxW.len
  obtain ⟨i0, hi0, hz0, hz1, hz2⟩ := info_parts item_info
  go_upto_region 6 with fail
  have hal : W.heap.size < (W.alloc (.cells #[.bool false, .slice none 0 0] 24)).heap.size := by simp
  go_loopw [9] (fun i wr => ∃ (k : Nat) (v : Value), k ≤ m ∧ i = .int .i64 (k : Int) ∧ Below W.heap.size W wr ∧ wr.heap[W.heap.size]? = some (.cells #[.bool false, v] 24 (0, 0)) ∧
      wr.ownsRow (W.heap.size + 1) 42 2 v ((widerL s xs).take k).length (itemVs ((widerL s xs).take k))) (fun i _ => m - (RowKit.intOf i).toNat)
  case atStart => exact ⟨0, .slice none 0 0, Nat.zero_le _, rfl, (Below.refl _ _).alloc (Nat.le_refl _) _, heap_new rfl, World.ownsRow_nil _ _ _ _⟩
  case round =>
    obtain ⟨k, v, hk, rfl, hbr, hblk, hown⟩ := hrel
    have hlr : W.heap.size < wr.heap.size := (Array.getElem?_eq_some_iff.1 hblk).1
    have r3r := (hbr.block _ hlt).trans r3
    have b0 := cell_blk r3r 0
    have b1 := cell_blk r3r 1
    have v0 := cell_blk hblk 0
    have v1 := cell_blk hblk 1
    have v2 := frozen_blk hblk 1
    simp only [List.getElem?_toArray, List.getElem?_cons_zero, List.getElem?_cons_succ] at b0 b1 v0 v1
    rcases Nat.lt_or_ge k m with hkm | hge
    · have hkl : k < xs.length := by omega
      obtain ⟨ab, ao, rfl, hab, hac⟩ := hxW.at_ (by omega)
      have hz1' := hac k hkl
      have u0 := (cellOf hbr hab).trans hz1'.1
      have u1 := (cellOf hbr hab).trans hz1'.2
      have htk : (widerL s xs).take (k + 1) = (widerL s xs).take k ++ [(bits .or .i64 xs[k].1 s, xs[k].2)] := by
        rw [List.take_add_one, List.getElem?_eq_getElem (by simpa [widerL] using hkl)]
        simp [widerL]
      have hlk : ((widerL s xs).take k).length = k := by simp [widerL]; omega
      have Htk := Lib.hid htk
      have Hlk := Lib.hid hlk
      clear hac hz1' htk hlk
      generalize xs[k].1 = xa at u0 Htk
      generalize xs[k].2 = xb at u1 Htk
      generalize (widerL s xs).take k = acc at *
      have hownD : wr.drew.ownsRow (W.heap.size + 1) 42 2 v acc.length (itemVs acc) := hown
      have hblkD : wr.drew.heap[W.heap.size]? = some (.cells #[.bool false, v] 24 (0, 0)) := hblk
      have Hs1 := Lib.hid (show W.heap.size + 1 ≤ wr.drew.heap.size from hlr)
      go_upto_region 8 with fail
      go_region_law
        ((
          refine step_append_mine rfl (.tmp 23) (.tmp 39) 22 rfl (W.heap.size + 1) 42 i0 (.agg #[.int .i64 0, .int .i64 0]) 2 16 Tryz.underlying22 hi0 hz0 hz1 hz2 rfl (by decide) v acc.length (itemVs acc) (by simp [Act.eval]) (hownD.alloc _) ⟨wr.heap.size, 0, none⟩ 1 1 [.int .i64 (bits .or .i64 xa s), .int .i64 xb] (by simp [Act.eval]) rfl (cell_two_new wr.drew _ _ _) (by simp [Value.oneCell']) (by simp only [maxLen]; have := Hlk.out; omega) (by have := Hlk.out; omega) (by show _ ≤ (wr.drew.alloc _).heap.size; rw [World.size_alloc]; show _ ≤ wr.heap.size + 1; omega) ?_
          intro v' w8 hown8 hgrow
          obtain ⟨g8, cap8, rfl⟩ := ownsRow_succ hown8
          have hfa := field_appended2 (n₀ := W.heap.size) (j := 1) hblkD (by decide) hownD Hs1.out (Nat.le_succ _) (Nat.le_refl _) hown8 hgrow
          obtain ⟨f1, f2, f3, f4, f5⟩ := hfa
          have hlow : ∀ b, b < W.heap.size → w8.heap[b]? = wr.heap[b]? := fun b hb => (Below.heap_setCell _ _ _ _ (Nat.ne_of_lt hb)).symm.trans (f5 b (by omega) (Nat.ne_of_lt hb))
          have t1 := (World.cell?_of_block (a := ⟨w.heap.size, 1, none⟩) (hlow _ hlt)).trans b1
          have t2 := (World.cell?_of_block (a := ⟨ab, ao + k * 2, none⟩) (hlow _ hab)).trans u0
          have t3 := (World.cell?_of_block (a := ⟨ab, ao + k * 2 + 1, none⟩) (hlow _ hab)).trans u1
          have c1' := cell_blk f1 1
          have c2' := frozen_blk f1 1))
      all_goals
        go_wp2
        go_roundw
        case rel =>
          refine ⟨k + 1, _, by omega, by go_num, (hbr.drew).trans f4, f2, ?_⟩
          rw [Htk.out, itemVs_app, List.length_append]
          exact f3
        case measure => simp [RowKit.intOf]; omega
    · obtain rfl : k = m := by omega
      rw [List.take_of_length_le (by simp [widerL]; omega)] at hown
      obtain ⟨A', n', c', rfl, hn', hP'⟩ := prs_own hown
      have hbw : Below w.heap.size w wr := hb5.trans (hbr.mono hb5.size)
      have hn12 : n' ≤ 12 := by rw [hn']; simp [widerL]; omega
      clear hn'
      rcases hneg : decide (s < 0) with _ | _
      rotate_left
      · go_wp2_with fail
        go_ret
        exact ⟨rfl, hbw⟩
      rcases hbig : decide (4294967296 ≤ s) with _ | _
      rotate_left
      · go_wp2_with fail
        go_ret
        exact ⟨rfl, hbw⟩
      have h0 : 0 ≤ s := by have := of_decide_eq_false hneg; omega
      have h1 : s < 4294967296 := by have := of_decide_eq_false hbig; omega
      have hF := pattern_Fits st A B k c0 n c1 xs zs wr ((hxW.below hbr).more hbr.size) ((hzW.below hbr).more hbr.size) (by omega) (by omega)
      have hF2 := fun W' (hW' : Below wr.heap.size wr W') => pattern_Fits false A' B n' c' n c1 (widerL s xs) zs W' ((hP'.below hW').more hW'.size) ((hzW.below (hbr.trans (hW'.mono hbr.size))).more (hbr.trans (hW'.mono hbr.size)).size) (by omega) (by omega)
      rcases hf : fitsB xs zs with _ | _
      · rw [hf] at hF
        clear hF2 h0 h1
        go_wp2_with fail
        refine hF.mono ?_
        rintro e W5 ⟨rfl, hb9⟩
        have hbz : Below w.heap.size w W5 := hbw.trans (hb9.mono hbw.size)
        clear hF b0 b1 v0 v1 hb9
        go_wp2_with fail
        go_ret
        exact ⟨rfl, hbz⟩
      · rw [hf] at hF
        rw [wider_fits h0 h1 hf] at hF2
        have HF2 := Lib.hid hF2
        clear hF2 h0 h1
        go_wp2_with fail
        refine hF.mono ?_
        rintro e W5 ⟨rfl, hb9⟩
        have hbz : Below w.heap.size w W5 := hbw.trans (hb9.mono hbw.size)
        have hF3 := HF2.out W5 hb9
        have x0 := (cellOf hb9 hlr).trans v0
        have x1 := (cellOf hb9 hlr).trans v1
        clear hF HF2 b0 b1 v0 v1 hb9 hblk
        go_wp2_with fail
        refine hF3.mono ?_
        rintro e W6 ⟨rfl, hb10⟩
        have hby : Below w.heap.size w W6 := hbz.trans (hb10.mono hbz.size)
        clear hF3 x0 x1 hb10
        go_wp2_with fail
        go_ret
        exact ⟨rfl, hby⟩
end Go.Vir
