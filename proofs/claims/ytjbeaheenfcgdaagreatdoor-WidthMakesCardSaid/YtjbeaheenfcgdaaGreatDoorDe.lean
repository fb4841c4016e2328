/- Joined texts: TrB, WdA, WdB, Scf, WdD, WdE, WdF, WdR, Fld, Prp, Wdq, RlB, Trm, RlR, Rvs. -/
import Derived.Test.YtjbeaheenfcgdaaGreatDoorDd
import Derived.Test.YtjbeaheenfcgdaaGreatDoorDa
import Derived.Test.YtjbeaheenfcgdaaGreatDoorDb
import Derived.Test.YtjbeaheenfcgdaaGreatDoorShelf
import Derived.Test.YtjbeaheenfcgdaaGreatDoorProg
import Derived.Lib.OthersKept
import Derived.Deep.RegionHeld3
import Derived.Shelf.Strings.SlTrimAscii
import Derived.RangeFuncBox
import Derived.Laws.StructEq
import Derived.Maps.RangeRun
import Derived.Maps.RangeWalk
import Derived.Shelf.Strings.BuilderRune
import Derived.BigQuiet
import Derived.Deep.QuietTactic
import Derived.Laws.RangeAny
import Derived.Lib.RuneCount
import Derived.Maps.AppendAt
namespace Go.Vir
open Go Go.RowKit Go.Proofs
attribute [local go_sem] Oper.semAt_some

def mxL (b : List Int) : Int := b.tail.foldl max (b.headD 0)
theorem mx_acc : ∀ (l : List Int) (a k : Int), k < l.foldl max a ↔ k < a ∨ ∃ v ∈ l, k < v
  | [], a, k => by simp
  | x :: l, a, k => by
    rw [List.foldl_cons, mx_acc l _ k]
    constructor
    · rintro (h | ⟨v, hv, h⟩)
      · rcases (by omega : k < a ∨ k < x) with h | h
        · exact .inl h
        · exact .inr ⟨x, List.mem_cons_self .., h⟩
      · exact .inr ⟨v, List.mem_cons_of_mem _ hv, h⟩
    · rintro (h | ⟨v, hv, h⟩)
      · exact .inl (by omega)
      · rcases List.mem_cons.1 hv with rfl | hv
        · exact .inl (by omega)
        · exact .inr ⟨v, hv, h⟩
theorem mx_gt {b : List Int} (h : b ≠ []) (k : Int) : decide (mxL b > k) = b.any fun v => decide (v > k) := by
  cases b with
  | nil => exact absurd rfl h
  | cons x l =>
    rw [Bool.eq_iff_iff, decide_eq_true_eq, List.any_eq_true]
    show k < l.foldl max x ↔ _
    rw [mx_acc]
    constructor
    · rintro (h | ⟨v, hv, h⟩)
      · exact ⟨x, List.mem_cons_self .., by simpa using h⟩
      · exact ⟨v, List.mem_cons_of_mem _ hv, by simpa using h⟩
    · rintro ⟨v, hv, h⟩
      have h : k < v := by simpa using h
      rcases List.mem_cons.1 hv with h2 | h2
      · exact .inl (by rw [← h2]; exact h)
      · exact .inr ⟨v, h2, h⟩
theorem mx_step {b : List Int} {i : Nat} (h : i < b.length) (h0 : 0 < i) : (b.tail.take i).foldl max (b.headD 0) = max ((b.tail.take (i - 1)).foldl max (b.headD 0)) b[i] := by
  cases b with
  | nil => simp at h
  | cons x l =>
    obtain ⟨j, rfl⟩ : ∃ j, i = j + 1 := ⟨i - 1, by omega⟩
    have hj : j < l.length := by simpa using h
    simp only [List.tail_cons, List.headD_cons, Nat.add_sub_cancel, List.getElem_cons_succ]
    rw [List.take_succ_eq_append_getElem hj, List.foldl_append]
    rfl
set_option maxHeartbeats 1000000 in
theorem slices_Max (A : Option Addr) (n c : Nat) (b : List Int) (w : World) (hx : Ints w w.heap.size A n b) (hn : n ≤ 1000000) (h0 : 0 < n) :
    Calls Tryz.prog 66 #[.slice A n c] w fun e w' => e = .returned (.int .i64 (mxL b)) ∧ Below w.heap.size w w' := by
  have hlen := hx.len
  obtain ⟨zb, zo, rfl, hzb, hzc⟩ := hx.at_ h0
  have z0 := hzc 0 (by omega)
  have hhd : b.headD 0 = b[0]'(by omega) := by cases b with | nil => simp at hlen; omega | cons x l => rfl
  have hst := fun (i : Nat) (h : i < b.length) (h0 : 0 < i) => mx_step h h0
  have hfin : mxL b = (b.tail.take (n - 1)).foldl max (b.headD 0) := by
    unfold mxL
    rw [List.take_of_length_le (by rw [List.length_tail]; omega)]
  rw [← hhd] at z0
  simp only [Nat.add_zero] at z0
  generalize mxL b = M at *
  generalize b.headD 0 = hd at *
  have Hst := Lib.hid hst
  have Hfin := Lib.hid hfin
  have Hlen := Lib.hid hlen
  have Hzc := Lib.hid hzc
  have h1 : ¬ n < 1 := by omega
  clear hst hfin hhd hlen hzc hx
  go_enter Tryz.func66, Tryz.ntmps66
  go_wp2_with fail
  go_loopw [3, 4] (fun m i wr => ∃ (k : Nat) (mm : Int), 1 ≤ k ∧ k ≤ n ∧ i = .int .i64 (k : Int) ∧ m = .int .i64 mm ∧ mm = (b.tail.take (k - 1)).foldl max hd ∧ wr = w) (fun _ i _ => n - (RowKit.intOf i).toNat)
  case atStart => exact ⟨1, hd, Nat.le_refl _, by omega, rfl, rfl, by simp, rfl⟩
  case round =>
    obtain ⟨k, mm, hk1, hk, rfl, rfl, hm, rfl⟩ := hrel
    have Hm := Lib.hid hm
    clear hm
    rcases Nat.lt_or_ge k n with hlt | hge
    · have z1 := Hzc.out k (by rw [Hlen.out]; exact hlt)
      have hs := Hst.out k (by rw [Hlen.out]; exact hlt) (by omega)
      generalize b[k]'(by rw [Hlen.out]; exact hlt) = x at *
      have Hs := Lib.hid hs
      clear hs
      go_wp2_with fail
      go_roundw
      case rel => exact ⟨k + 1, max mm x, by omega, by omega, by go_num, by first | rfl | (congr 1; omega), by rw [Nat.add_sub_cancel, Hs.out, Hm.out], by first | trivial | rfl⟩
      case measure => simp [RowKit.intOf]; omega
    · obtain rfl : k = n := by omega
      go_wp2_with fail
      go_ret
      exact ⟨ret_int (by rw [Hm.out, Hfin.out]), Below.refl _ _⟩

theorem width_Right1 (A : Option Addr) (n c : Nat) (b : List Int) (w : World) (hx : Ints w w.heap.size A n b) (hn : n ≤ 1000000) (h0 : 0 < n) :
    Calls Tryz.prog 65 #[.slice A n c] w fun e w' => e = .returned (.bool (b.any fun v => decide (v > 6))) ∧ Below w.heap.size w w' := by
  have hc := slices_Max A n c b w hx hn h0
  rw [← mx_gt (by rintro rfl; have := hx.len; simp at this; omega)]
  generalize mxL b = M at *
  clear hx
  go_enter Tryz.func65, Tryz.ntmps65
  go_wp2_with fail
  refine hc.mono ?_
  rintro e w1 ⟨rfl, hb1⟩
  go_wp2_with fail
  go_ret
  exact ⟨rfl, hb1⟩
theorem six_all (b : List Int) : (!(b.any fun v => decide (v > 6))) = b.all fun v => decide (v ≤ 6) := by
  rw [List.not_any_eq_all_not]
  congr 1
  funext v
  rw [Bool.eq_iff_iff]
  simp only [Bool.not_eq_true', decide_eq_false_iff_not, decide_eq_true_eq]
  omega
set_option maxHeartbeats 2000000 in
theorem width_Right (Ai : Option Addr) (ni ci : Nat) (Ab : Option Addr) (nb cb : Nat) (wd : Bool) (T : TrV) (w : World) (hT : Tri w w.heap.size Ai ni Ab nb T) (hi : ni ≤ 1000000) (hnb : nb ≤ 1000000) (hbs : ∀ b ∈ T.bl, b.length ≤ 1000000) :
    Calls Tryz.prog 30 #[.agg #[.slice Ai ni ci, .slice Ab nb cb, .bool wd]] w fun e w' => e = .returned (.bool (rightW T)) ∧ Below w.heap.size w w' := by
  have hr : rightW T = (rightT T && !(T.bl.any fun b => b.any fun v => decide (v > 6))) := by
    unfold rightW
    rw [List.not_any_eq_all_not]
    congr 2
    funext b
    rw [six_all]
  have hb1 : Below w.heap.size w (w.alloc (.cells #[.slice Ai ni ci, .slice Ab nb cb, .bool wd] 42)) := by go_grown
  have hc1 := trie_Right Ai ni ci Ab nb cb T (w.alloc (.cells #[.slice Ai ni ci, .slice Ab nb cb, .bool wd] 42)) ((hT.below hb1).more hb1.size) hi hnb hbs
  have hc2 := fun (hr : rightT T = true) (W : World) (hW : Below w.heap.size w W) => containsFunc_ints Ab nb cb T.bl W (g := 65) (lb := #[]) (p := fun b => b.any fun v => decide (v > 6)) (enters_of Tryz.func65 (by kernel_rfl) rfl)
    ((hT.bl.below hW).more hW.size) (fun b hb A n c W' _ hz => width_Right1 A n c b W' hz (by rw [← hz.len]; exact hbs b hb) (by rw [← hz.len, ((right_parts hr).2.2 b hb).1]; decide)) hnb
  rw [hr]
  generalize (T.bl.any fun b => b.any fun v => decide (v > 6)) = o2 at *
  generalize rightT T = rt at *
  have Hc1 := Lib.hid hc1
  have Hc2 := Lib.hid hc2
  have Hb1 := Lib.hid hb1
  have hbx : ∀ w1, Below (w.alloc (.cells #[.slice Ai ni ci, .slice Ab nb cb, .bool wd] 42)).heap.size (w.alloc (.cells #[.slice Ai ni ci, .slice Ab nb cb, .bool wd] 42)) w1 → w1.cell? ⟨w.heap.size, 1, none⟩ = some (.slice Ab nb cb) := fun w1 hb => (cellOf hb (by simp)).trans (cell_blk (heap_new rfl) 1)
  have Hbx := Lib.hid hbx
  clear hc1 hc2 hr hT hbs hb1 hbx
  go_enter Tryz.func30, Tryz.ntmps30
  go_wp2_with fail
  refine Hc1.out.mono ?_
  rintro e w1 ⟨rfl, hb2⟩
  have hbw1 := Hb1.out.trans (hb2.mono Hb1.out.size)
  have hx1 := Hbx.out w1 hb2
  rcases rt with _ | _
  · go_wp2_with fail
    go_ret
    exact ⟨by simp, hbw1⟩
  · have H2 := Lib.hid (Hc2.out rfl w1 hbw1)
    go_wp2_with fail
    refine H2.out.mono ?_
    rintro e w2 ⟨rfl, hb3⟩
    go_wp2_with fail
    go_ret
    exact ⟨by simp, hbw1.trans (hb3.mono hbw1.size)⟩

theorem scalar_Right (r : Int) (w : World) : Calls Tryz.prog 59 #[.int .i64 r] w fun e w' => e = .returned (.bool (scaR r)) ∧ Below w.heap.size w w' := by
  unfold scaR
  rcases h1 : decide (0 ≤ r) with _ | _
  · have e1 : decide (r ≥ 0) = false := h1
    go_enter Tryz.func59, Tryz.ntmps59
    go_wp2
    go_ret
    exact ⟨by simp, Below.refl _ _⟩
  · have e1 : decide (r ≥ 0) = true := h1
    rcases h2 : decide (r ≤ 1114111) with _ | _
    · go_enter Tryz.func59, Tryz.ntmps59
      go_wp2
      go_ret
      exact ⟨by simp, Below.refl _ _⟩
    · rcases h3 : decide (r < 55296) with _ | _
      · rcases h4 : decide (57343 < r) with _ | _
        · have e4 : decide (r > 57343) = false := h4
          go_enter Tryz.func59, Tryz.ntmps59
          go_wp2
          go_ret
          exact ⟨by simp, Below.refl _ _⟩
        · have e4 : decide (r > 57343) = true := h4
          go_enter Tryz.func59, Tryz.ntmps59
          go_wp2
          go_ret
          exact ⟨by simp, Below.refl _ _⟩
      · go_enter Tryz.func59, Tryz.ntmps59
        go_wp2
        go_ret
        exact ⟨by simp, Below.refl _ _⟩
theorem ref01_Right (r : Int) (w : World) : Calls Tryz.prog 62 #[.int .i64 r] w fun e w' => e = .returned (.bool (scaR r)) ∧ Below w.heap.size w w' := by
  unfold scaR
  rcases h1 : decide (0 ≤ r) with _ | _
  · have e1 : decide (r ≥ 0) = false := h1
    go_enter Tryz.func62, Tryz.ntmps62
    go_wp2
    go_ret
    exact ⟨by simp, Below.refl _ _⟩
  · have e1 : decide (r ≥ 0) = true := h1
    rcases h2 : decide (r ≤ 1114111) with _ | _
    · go_enter Tryz.func62, Tryz.ntmps62
      go_wp2
      go_ret
      exact ⟨by simp, Below.refl _ _⟩
    · rcases h3 : decide (r < 55296) with _ | _
      · rcases h4 : decide (57343 < r) with _ | _
        · have e4 : decide (r > 57343) = false := h4
          go_enter Tryz.func62, Tryz.ntmps62
          go_wp2
          go_ret
          exact ⟨by simp, Below.refl _ _⟩
        · have e4 : decide (r > 57343) = true := h4
          go_enter Tryz.func62, Tryz.ntmps62
          go_wp2
          go_ret
          exact ⟨by simp, Below.refl _ _⟩
      · go_enter Tryz.func62, Tryz.ntmps62
        go_wp2
        go_ret
        exact ⟨by simp, Below.refl _ _⟩

theorem Tri.cell {w : World} {B : Nat} {Ai Ab : Option Addr} {ni nb : Nat} {T : TrV} (h : Tri w B Ai ni Ab nb T) (hr : rightT T = true) {r : Nat} (hl : r ≤ 1114111) :
    ∃ ib io bb bo b o c' n, Ai = some ⟨ib, io, none⟩ ∧ Ab = some ⟨bb, bo, none⟩ ∧ ib < B ∧ bb < B ∧ b < B ∧ n < nb ∧ ni = 4352 ∧ 256 ≤ c' ∧
      w.cell? ⟨ib, io + r / 256, none⟩ = some (.int .i64 (n : Nat)) ∧ w.cell? ⟨bb, bo + n, none⟩ = some (.slice (some ⟨b, o, none⟩) 256 c') ∧ w.cell? ⟨b, o + r % 256, none⟩ = some (.int .i64 (atT T r)) := by
  obtain ⟨n, h1, h2, h3, h4, h5, _⟩ := right_at hr hl
  obtain ⟨p1, p2, p3⟩ := right_parts hr
  have hni := h.ix.len
  have hnb := h.bl.len
  obtain ⟨ib, io, e1, hib, hic⟩ := h.ix.at_ (by omega)
  obtain ⟨bb, bo, e2, hbb, hbc⟩ := h.bl.at_ (by omega)
  obtain ⟨A', n', c', k1, k2, k3⟩ := hbc n h2
  have hl2 := (p3 _ (List.getElem_mem h2)).1
  have hk := k2.len
  obtain ⟨b, o, e3, hb, hc⟩ := k2.at_ (by omega)
  obtain rfl : n' = 256 := by omega
  subst e3
  exact ⟨ib, io, bb, bo, b, o, c', n, e1, e2, hib, hbb, hb, by omega, by omega, k3, by rw [hic _ h1, h4], k1, by rw [hc _ h3, h5]⟩
set_option maxHeartbeats 2000000 in
theorem trie_Value (Ai : Option Addr) (ni ci : Nat) (Ab : Option Addr) (nb cb : Nat) (T : TrV) (r : Int) (w : World) (hT : Tri w w.heap.size Ai ni Ab nb T) (hi : ni ≤ 1000000) (hnb : nb ≤ 1000000) (hbs : ∀ b ∈ T.bl, b.length ≤ 1000000) :
    Calls Tryz.prog 105 #[.agg #[.slice Ai ni ci, .slice Ab nb cb], .int .i64 r] w fun e w' => e = .returned (.int .i64 (valT T r)) ∧ Below w.heap.size w w' := by
  have hb1 : Below w.heap.size w (w.alloc (.cells #[.slice Ai ni ci, .slice Ab nb cb] 40)) := by go_grown
  have hc1 := trie_Right Ai ni ci Ab nb cb T (w.alloc (.cells #[.slice Ai ni ci, .slice Ab nb cb] 40)) ((hT.below hb1).more hb1.size) hi hnb hbs
  have Hc1 := Lib.hid hc1
  have Hb1 := Lib.hid hb1
  have HT := Lib.hid hT
  clear hc1 hb1 hT hbs
  by_cases h0 : r < 0
  · have hv : valT T r = 0 := by unfold valT; rw [if_neg (by omega)]
    rw [hv]
    clear hv
    go_enter Tryz.func105, Tryz.ntmps105
    go_wp2_with fail
    go_ret
    exact ⟨rfl, by go_grown⟩
  · by_cases h1 : 1114111 < r
    · have hv : valT T r = 0 := by unfold valT; rw [if_neg (by omega)]
      rw [hv]
      clear hv
      go_enter Tryz.func105, Tryz.ntmps105
      go_wp2_with fail
      go_ret
      exact ⟨rfl, by go_grown⟩
    · obtain ⟨k, rfl⟩ : ∃ k : Nat, r = (k : Int) := ⟨r.toNat, by omega⟩
      have hk : k ≤ 1114111 := by omega
      rcases hrt : rightT T with _ | _
      · have hv : valT T (k : Int) = 0 := by unfold valT; rw [if_neg (by rw [hrt]; simp)]
        rw [hv]
        rw [hrt] at Hc1
        clear hv hrt
        go_enter Tryz.func105, Tryz.ntmps105
        go_wp2_with fail
        refine Hc1.out.mono ?_
        rintro e w1 ⟨rfl, hb2⟩
        go_wp2_with fail
        go_ret
        exact ⟨rfl, Hb1.out.trans (hb2.mono Hb1.out.size)⟩
      · have hv : valT T (k : Int) = atT T k := by unfold valT; rw [if_pos ⟨by omega, by omega, hrt⟩]; rfl
        obtain ⟨ib, io, bb, bo, b, o, c', n, rfl, rfl, hib, hbb, hbl, hn, rfl, hc', c1, c2, c3⟩ := HT.out.cell hrt hk
        rw [hv]
        rw [hrt] at Hc1
        have e3 : k / 256 < 4352 := by omega
        have e4 : k % 256 < 256 := Nat.mod_lt _ (by decide)
        have e5 : ((k : Int)).tdiv 256 = ((k / 256 : Nat) : Int) := by rw [Int.tdiv_eq_ediv_of_nonneg (by omega)]; rfl
        have e6 : ((k : Int)).tmod 256 = ((k % 256 : Nat) : Int) := by rw [Int.tmod_eq_emod_of_nonneg (by omega)]; rfl
        generalize atT T k = v at *
        generalize k / 256 = kq at *
        generalize k % 256 = kr at *
        clear hv hrt HT
        go_enter Tryz.func105, Tryz.ntmps105
        go_wp2_with fail
        refine Hc1.out.mono ?_
        rintro e w1 ⟨rfl, hb2⟩
        have hbw1 := Hb1.out.trans (hb2.mono Hb1.out.size)
        have x0 : w1.cell? ⟨w.heap.size, 0, none⟩ = some (.slice (some ⟨ib, io, none⟩) 4352 ci) := (cellOf hb2 (by simp)).trans (cell_blk (heap_new rfl) 0)
        have x1 : w1.cell? ⟨w.heap.size, 1, none⟩ = some (.slice (some ⟨bb, bo, none⟩) nb cb) := (cellOf hb2 (by simp)).trans (cell_blk (heap_new rfl) 1)
        have d1 := (cellOf hbw1 hib).trans c1
        have d2 := (cellOf hbw1 hbb).trans c2
        have d3 := (cellOf hbw1 hbl).trans c3
        clear c1 c2 c3
        go_upto_region 3 with fail
        go_quiet (fail)
        go_wp2_with fail
        go_ret
        exact ⟨rfl, hbw1.trans (Below.mono (below_drewN _ _ _) hbw1.size)⟩
end Go.Vir


namespace Go.Vir
open Go Go.RowKit Go.Proofs
attribute [local go_sem] Oper.semAt_some

structure RulS (W : World) (B rb m : Nat) (Ai : Option Addr) (ni ci : Nat) (Ab : Option Addr) (nb cb : Nat) (wd : Bool) (T : TrV) : Prop where
  bx : W.heap[rb]? = some (.cells #[.slice Ai ni ci, .slice Ab nb cb, .bool wd, .map (some m)] 158 (0, 0))
  mp : ∃ es ck kvs, W.heap[m]? = some (.map es ck) ∧ AscI .i32 es kvs ∧ ∀ k v, valI k kvs = some v → v = widT T wd k
  tr : Tri W B Ai ni Ab nb T
  bm : B ≤ m
  br : B ≤ rb
  rt : rightT T = true
  hni : ni ≤ 1000000
  hnb : nb ≤ 1000000
theorem RulS.keep {W W' : World} {B rb m : Nat} {Ai : Option Addr} {ni ci : Nat} {Ab : Option Addr} {nb cb : Nat} {wd : Bool} {T : TrV} (h : RulS W B rb m Ai ni ci Ab nb cb wd T) (hb : Below W.heap.size W W') : RulS W' B rb m Ai ni ci Ab nb cb wd T := by
  obtain ⟨es, ck, kvs, h1, h2, h3⟩ := h.mp
  have hm := (Array.getElem?_eq_some_iff.1 h1).1
  exact ⟨(hb.block rb (Array.getElem?_eq_some_iff.1 h.bx).1).trans h.bx, ⟨es, ck, kvs, (hb.block m hm).trans h1, h2, h3⟩, h.tr.below (hb.mono (by have := h.bm; omega)), h.bm, h.br, h.rt, h.hni, h.hnb⟩
theorem ruler_look {kvs : KI} {es : Array MapEntry} {ck m : Nat} (r : Int) {w : World} (hm : w.heap[m]? = some (.map es ck)) (ha : AscI .i32 es kvs) :
    (Instr.lookup 156 (.map (some m)) (.int .i32 r) true).run Tryz.prog w = .ok (.tuple #[.int .i64 ((valI r kvs).getD 0), .bool (valI r kvs).isSome]) w := by
  have h := run_look_ki (P := Tryz.prog) (k := r) (w := w) true Tryz.underlying156 Tryz.underlying21 (by kernel_rfl) hm ha
  rw [show (lookI r kvs 0).isSome = ((lookI r kvs 0).map (·.2)).isSome by cases lookI r kvs 0 <;> rfl, look_valI] at h
  exact h
theorem RulS.upd {W : World} {B rb m : Nat} {Ai : Option Addr} {ni ci : Nat} {Ab : Option Addr} {nb cb : Nat} {wd : Bool} {T : TrV} {kvs : KI} {es es' : Array MapEntry} {ck ck' : Nat} {r v : Int} (h : RulS W B rb m Ai ni ci Ab nb cb wd T) (hm : W.heap[m]? = some (.map es ck))
    (hk : ∀ k v, valI k kvs = some v → v = widT T wd k) (ha : AscI .i32 es' (updI r v kvs)) (hv : v = widT T wd r) :
    RulS (W.putObj m (.map es' ck')) B rb m Ai ni ci Ab nb cb wd T ∧ W.grownBy (W.putObj m (.map es' ck')) (some m) := by
  have hml := (Array.getElem?_eq_some_iff.1 hm).1
  have hne : rb ≠ m := by
    rintro rfl
    have := h.bx
    rw [hm] at this
    cases this
  refine ⟨⟨(World.putObj_heap_other hne).trans h.bx, ⟨es', ck', _, World.putObj_heap_same hml, ha, fun k u hu => ?_⟩, h.tr.below ?_, h.bm, h.br, h.rt, h.hni, h.hnb⟩, ⟨rfl, rfl, rfl, by simp, fun k hk hn => World.putObj_heap_other (fun e => hn (by rw [e]))⟩⟩
  · rw [valI_upd] at hu
    split at hu
    · rename_i e
      cases hu
      rw [hv, e]
    · exact hk k u hu
  · exact ⟨rfl, rfl, rfl, by simp, fun k hk => World.putObj_heap_other (by have := h.bm; omega)⟩

set_option maxRecDepth 100000 in
set_option maxHeartbeats 4000000 in
theorem ruler_of (B rb m : Nat) (Ai : Option Addr) (ni ci : Nat) (Ab : Option Addr) (nb cb : Nat) (wd : Bool) (T : TrV) (r : Int) (w : World) (hS : RulS w B rb m Ai ni ci Ab nb cb wd T) (h0 : 0 ≤ r) (h1 : r ≤ 1114111) :
    Calls Tryz.prog 61 #[.pointer (some ⟨rb, 0, none⟩), .int .i32 r] w fun e w' => e = .returned (.int .i64 (widT T wd r)) ∧ RulS w' B rb m Ai ni ci Ab nb cb wd T ∧ w.grownBy w' (some m) := by
  obtain ⟨es, ck, kvs, hm, ha, hk⟩ := hS.mp
  have e0 := cell_blk hS.bx 0
  have e1 := cell_blk hS.bx 1
  have e2 := cell_blk hS.bx 2
  have e3 := cell_blk hS.bx 3
  have hl := ruler_look r hm ha
  have HS := Lib.hid hS
  have Hm := Lib.hid hm
  have Ha := Lib.hid ha
  have Hk := Lib.hid hk
  rcases hv : valI r kvs with _ | v
  · rw [hv] at hl
    simp only [Option.getD_none, Option.isSome_none] at hl
    have hval : valT T r = atT T r.toNat := by unfold valT; rw [if_pos ⟨h0, h1, hS.rt⟩]
    have hvc := trie_Value Ai ni ci Ab nb cb T r w (hS.tr.more (by have := hS.bm; have := (Array.getElem?_eq_some_iff.1 hm).1; omega)) hS.hni hS.hnb (fun b hb => by have := ((right_parts hS.rt).2.2 b hb).1; omega)
    rw [hval] at hvc
    have hw : widT T wd r = widV wd (atT T r.toNat) := rfl
    generalize atT T r.toNat = x at hvc hw
    have Hvc := Lib.hid hvc
    have Hw := Lib.hid hw
    clear hvc hw hval hS hm ha hk hv
    have fin : ∀ (w1 : World) (es' : Array MapEntry) (ck' : Nat) (y : Int), Below w.heap.size w w1 → y = widV wd x → AscI .i32 es' (updI r y kvs) → RulS (w1.putObj m (.map es' ck')) B rb m Ai ni ci Ab nb cb wd T ∧ w.grownBy (w1.putObj m (.map es' ck')) (some m) := fun w1 es' ck' y hb hy ha' => by
      obtain ⟨q1, q2⟩ := (HS.out.keep hb).upd (ck' := ck') ((hb.block m (Array.getElem?_eq_some_iff.1 Hm.out).1).trans Hm.out) Hk.out ha' (by rw [hy, Hw.out])
      exact ⟨q1, ⟨q2.os.trans hb.os, q2.tape.trans hb.tape, q2.output.trans hb.output, Nat.le_trans hb.size q2.size, fun k hk hn => (q2.block k (Nat.lt_of_lt_of_le hk hb.size) hn).trans (hb.block k hk)⟩⟩
    have Fin := Lib.hid fin
    clear fin
    go_enter Tryz.func61, Tryz.ntmps61
    go_wp2_with fail
    refine Hvc.out.mono ?_
    rintro e w1 ⟨rfl, hb1⟩
    have g3 : w1.cell? ⟨rb, 3, none⟩ = some (.map (some m)) := cell_blk ((hb1.block rb (Array.getElem?_eq_some_iff.1 HS.out.bx).1).trans HS.out.bx) 3
    have g2 : w1.cell? ⟨rb, 2, none⟩ = some (.bool wd) := cell_blk ((hb1.block rb (Array.getElem?_eq_some_iff.1 HS.out.bx).1).trans HS.out.bx) 2
    have gm := (hb1.block m (Array.getElem?_eq_some_iff.1 Hm.out).1).trans Hm.out
    clear e0 e1 e2 e3 hl
    by_cases x3 : x = 3
    · subst x3
      go_wp2_with (refine wpList_upd_ki (kd := .i32) (kvs := kvs) (k := r) (v := 2) rfl rfl rfl rfl rfl Tryz.underlying156 Tryz.underlying21 gm Ha.out ?_; intro es' ck' ha')
      go_ret
      have hy : 2 = widV wd 3 := by simp [widV]
      obtain ⟨q1, q2⟩ := Fin.out w1 es' ck' 2 hb1 hy ha'
      exact ⟨by rw [Hw.out, ← hy]; rfl, q1, q2⟩
    · by_cases x4 : x = 4
      · subst x4
        go_wp2_with (refine wpList_upd_ki (kd := .i32) (kvs := kvs) (k := r) (v := 2) rfl rfl rfl rfl rfl Tryz.underlying156 Tryz.underlying21 gm Ha.out ?_; intro es' ck' ha')
        go_ret
        have hy : 2 = widV wd 4 := by simp [widV]
        obtain ⟨q1, q2⟩ := Fin.out w1 es' ck' 2 hb1 hy ha'
        exact ⟨by rw [Hw.out, ← hy]; rfl, q1, q2⟩
      · by_cases x1 : x = 1
        · subst x1
          rcases wd with _ | _
          · go_wp2_with (refine wpList_upd_ki (kd := .i32) (kvs := kvs) (k := r) (v := 1) rfl rfl rfl rfl rfl Tryz.underlying156 Tryz.underlying21 gm Ha.out ?_; intro es' ck' ha')
            go_ret
            have hy : 1 = widV false 1 := by simp [widV]
            obtain ⟨q1, q2⟩ := Fin.out w1 es' ck' 1 hb1 hy ha'
            exact ⟨by rw [Hw.out, ← hy]; rfl, q1, q2⟩
          · go_wp2_with (refine wpList_upd_ki (kd := .i32) (kvs := kvs) (k := r) (v := 2) rfl rfl rfl rfl rfl Tryz.underlying156 Tryz.underlying21 gm Ha.out ?_; intro es' ck' ha')
            go_ret
            have hy : 2 = widV true 1 := by simp [widV]
            obtain ⟨q1, q2⟩ := Fin.out w1 es' ck' 2 hb1 hy ha'
            exact ⟨by rw [Hw.out, ← hy]; rfl, q1, q2⟩
        · by_cases x6 : x = 6
          · subst x6
            go_wp2_with (refine wpList_upd_ki (kd := .i32) (kvs := kvs) (k := r) (v := 0) rfl rfl rfl rfl rfl Tryz.underlying156 Tryz.underlying21 gm Ha.out ?_; intro es' ck' ha')
            go_ret
            have hy : 0 = widV wd 6 := by simp [widV]
            obtain ⟨q1, q2⟩ := Fin.out w1 es' ck' 0 hb1 hy ha'
            exact ⟨by rw [Hw.out, ← hy]; rfl, q1, q2⟩
          · have b3 : (x == 3) = false := beq_eq_false_iff_ne.2 x3
            have b4 : (x == 4) = false := beq_eq_false_iff_ne.2 x4
            have b1 : (x == 1) = false := beq_eq_false_iff_ne.2 x1
            have b6 : (x == 6) = false := beq_eq_false_iff_ne.2 x6
            go_wp2_with (refine wpList_upd_ki (kd := .i32) (kvs := kvs) (k := r) (v := 1) rfl rfl rfl rfl rfl Tryz.underlying156 Tryz.underlying21 gm Ha.out ?_; intro es' ck' ha')
            go_ret
            have hy : 1 = widV wd x := by simp [widV, x3, x4, x1, x6]
            obtain ⟨q1, q2⟩ := Fin.out w1 es' ck' 1 hb1 hy ha'
            exact ⟨by rw [Hw.out, ← hy]; rfl, q1, q2⟩
  · rw [hv] at hl
    simp only [Option.getD_some, Option.isSome_some] at hl
    have hw : v = widT T wd r := hk r v hv
    rw [← hw]
    have hg : w.grownBy w (some m) := ⟨rfl, rfl, rfl, Nat.le_refl _, fun _ _ _ => rfl⟩
    clear hw hS hm ha hk hv
    go_enter Tryz.func61, Tryz.ntmps61
    go_wp2_with fail
    go_ret
    exact ⟨rfl, HS.out, hg⟩
end Go.Vir


namespace Go.Vir
open Go Go.RowKit Go.Proofs
attribute [local go_sem] Oper.semAt_some

theorem RulS.put {W : World} {B rb m K : Nat} {Ai : Option Addr} {ni ci : Nat} {Ab : Option Addr} {nb cb : Nat} {wd : Bool} {T : TrV} {o : Obj} (h : RulS W B rb m Ai ni ci Ab nb cb wd T) (h1 : rb ≠ K) (h2 : m ≠ K) (h3 : B ≤ K) : RulS (W.putObj K o) B rb m Ai ni ci Ab nb cb wd T := by
  obtain ⟨es, ck, kvs, g1, g2, g3⟩ := h.mp
  exact ⟨(World.putObj_heap_other h1).trans h.bx, ⟨es, ck, kvs, (World.putObj_heap_other h2).trans g1, g2, g3⟩, h.tr.below ⟨rfl, rfl, rfl, by simp, fun k hk => World.putObj_heap_other (by omega)⟩, h.bm, h.br, h.rt, h.hni, h.hnb⟩
theorem emo_snoc (l : List Int) (r : Int) : emoW (l ++ [r]) = (emoW l || (decide (l ≠ []) && decide (r = 65039))) := by
  unfold emoW
  cases l with
  | nil => rfl
  | cons a t => simp
theorem grown_put {w V : World} {m K : Nat} {o : Obj} (h : w.grownBy V (some m)) (hK : w.heap.size ≤ K) : w.grownBy (V.putObj K o) (some m) :=
  ⟨h.os, h.tape, h.output, by simpa using h.size, fun k hk hn => (World.putObj_heap_other (by omega)).trans (h.block k hk hn)⟩
theorem grown_trans {w V W : World} {m : Nat} (h : w.grownBy V (some m)) (k : V.grownBy W (some m)) : w.grownBy W (some m) :=
  ⟨k.os.trans h.os, k.tape.trans h.tape, k.output.trans h.output, Nat.le_trans h.size k.size, fun j hj hn => (k.block j (Nat.lt_of_lt_of_le hj h.size) hn).trans (h.block j hj hn)⟩
theorem sca_bounds {r : Int} (h : scaR r = true) : 0 ≤ r ∧ r ≤ 1114111 := by
  unfold scaR at h
  simp only [Bool.and_eq_true, decide_eq_true_eq] at h
  exact ⟨h.1, h.2.1⟩

theorem max_if (a b : Int) : max a b = if a < b then b else a := by
  split <;> omega
set_option maxRecDepth 100000 in
set_option maxHeartbeats 4000000 in
theorem ruler_cluster (B rb m : Nat) (Ai : Option Addr) (ni ci : Nat) (Ab : Option Addr) (nb cb : Nat) (wd : Bool) (T : TrV) (c : List UInt8) (l : List Int) (w : World) (hS : RulS w B rb m Ai ni ci Ab nb cb wd T) (hc : scalarsU c = some l) (hs : c.length ≤ 1000000) :
    Calls Tryz.prog 71 #[.pointer (some ⟨rb, 0, none⟩), .string ⟨c.toArray⟩] w fun e w' => e = .returned (.int .i64 (clusW T wd l)) ∧ RulS w' B rb m Ai ni ci Ab nb cb wd T ∧ w.grownBy w' (some m) := by
  have hsz : (⟨c.toArray⟩ : ByteArray).size = c.length := rfl
  obtain ⟨es, ck, kvs, hm, _, _⟩ := hS.mp
  have hml := (Array.getElem?_eq_some_iff.1 hm).1
  have hrl := (Array.getElem?_eq_some_iff.1 hS.bx).1
  have hbm := hS.bm
  have hS1 : RulS (w.alloc (.stringIter ⟨c.toArray⟩ 0)) B rb m Ai ni ci Ab nb cb wd T := hS.keep ((Below.refl _ w).alloc (Nat.le_refl _) _)
  have hg1 : w.grownBy (w.alloc (.stringIter ⟨c.toArray⟩ 0)) (some m) := ⟨rfl, rfl, rfl, by simp, fun k hk _ => heap_old hk⟩
  have hi1 : (w.alloc (.stringIter ⟨c.toArray⟩ 0)).heap[w.heap.size]? = some (.stringIter ⟨c.toArray⟩ 0) := World.alloc_heap_new w _
  have Hst := Lib.hid (And.intro hS1 (And.intro hg1 hi1))
  have Hc := Lib.hid hc
  clear hm hS hS1 hg1 hi1 hc
  go_enter Tryz.func71, Tryz.ntmps71
  go_wp2_with fail
  go_loopw [5, 6] (fun a b wr => ∃ (pos : Nat) (l1 l2 : List Int), pos ≤ c.length ∧ l = l1 ++ l2 ∧ scalarsU (c.drop pos) = some l2 ∧ (l1 = [] → pos = 0) ∧ (l1 ≠ [] → 0 < pos) ∧ a = .int .i64 (maxW T wd l1) ∧ b = .bool (emoW l1) ∧ RulS wr B rb m Ai ni ci Ab nb cb wd T ∧ w.grownBy wr (some m) ∧ wr.heap[w.heap.size]? = some (.stringIter ⟨c.toArray⟩ pos)) (fun _ _ wr => c.length - wr.iterPos w.heap.size)
  case atStart => exact ⟨0, [], l, Nat.zero_le _, rfl, Hc.out, fun _ => rfl, fun h => absurd rfl h, rfl, rfl, Hst.out.1, Hst.out.2.1, Hst.out.2.2⟩
  case round =>
    obtain ⟨pos, l1, l2, hpos, hl, hsc, h0, hp0, rfl, rfl, hS, hg, hit⟩ := hrel
    have HS := Lib.hid hS
    have HG := Lib.hid hg
    have Hit := Lib.hid hit
    clear hS hg
    rcases Nat.lt_or_ge pos c.length with hlt | hge
    · obtain ⟨r, n, l', hd, rfl, hsc2, hn1, hn2, hdec, hsr⟩ := scalars_at hlt hsc
      obtain ⟨hr0, hr1⟩ := sca_bounds hsr
      have hnx : ∀ ty, (Instr.next (.pointer (some ⟨w.heap.size, 0, none⟩)) true ty).run Tryz.prog wr = .ok (.tuple #[.bool true, .int .i64 (pos : Int), .int .i32 (r : Int)]) (wr.putObj w.heap.size (.stringIter ⟨c.toArray⟩ (pos + n))) := fun ty => by
        rw [Lib.run_next_any_at wr w.heap.size ⟨c.toArray⟩ pos ty hit (by rw [hsz]; exact hlt), hdec]; rfl
      have hS2 := HS.out.put (o := .stringIter ⟨c.toArray⟩ (pos + n)) (by omega) (by omega) (show B ≤ w.heap.size by omega)
      have hg2 := grown_put (o := .stringIter ⟨c.toArray⟩ (pos + n)) HG.out (Nat.le_refl _)
      have hi2 : (wr.putObj w.heap.size (.stringIter ⟨c.toArray⟩ (pos + n))).heap[w.heap.size]? = some (.stringIter ⟨c.toArray⟩ (pos + n)) := World.putObj_heap_same (Array.getElem?_eq_some_iff.1 hit).1
      have hof := ruler_of B rb m Ai ni ci Ab nb cb wd T (r : Int) _ hS2 hr0 hr1
      have Hof := Lib.hid hof
      have Hi2 := Lib.hid hi2
      have Hg2 := Lib.hid hg2
      have hW3 : ∀ w3 : World, (wr.putObj w.heap.size (.stringIter ⟨c.toArray⟩ (pos + n))).grownBy w3 (some m) → w.grownBy w3 (some m) ∧ w3.heap[w.heap.size]? = some (.stringIter ⟨c.toArray⟩ (pos + n)) := fun w3 h3 => by
        refine ⟨grown_trans Hg2.out h3, (h3.block _ (Array.getElem?_eq_some_iff.1 Hi2.out).1 (fun e => ?_)).trans Hi2.out⟩
        injection e with e
        omega
      have HW3 := Lib.hid hW3
      have hms : maxW T wd (l1 ++ [(r : Int)]) = max (maxW T wd l1) (widT T wd (r : Int)) := maxW_snoc _ _ _ _
      have hes := emo_snoc l1 (r : Int)
      have Hms := Lib.hid hms
      have Hes := Lib.hid hes
      have Hsc2 := Lib.hid hsc2
      have Hl := Lib.hid hl
      have Hpz := Lib.hid (And.intro h0 hp0)
      clear hof hi2 hg2 hW3 hms hes hsc2 hsc hd hdec hsr hl h0 hp0 hit
      generalize (wr.putObj w.heap.size (.stringIter ⟨c.toArray⟩ (pos + n))) = w2 at *
      generalize widT T wd (r : Int) = y at *
      have hnew : ∀ (w3 : World) (b : Bool), b = emoW (l1 ++ [(r : Int)]) → RulS w3 B rb m Ai ni ci Ab nb cb wd T → w2.grownBy w3 (some m) → (∃ (pos' : Nat) (l1' l2' : List Int), pos' ≤ c.length ∧ l = l1' ++ l2' ∧ scalarsU (c.drop pos') = some l2' ∧ (l1' = [] → pos' = 0) ∧ (l1' ≠ [] → 0 < pos') ∧ Value.int .i64 (if maxW T wd l1 < y then y else maxW T wd l1) = .int .i64 (maxW T wd l1') ∧ Value.bool b = .bool (emoW l1') ∧ RulS w3 B rb m Ai ni ci Ab nb cb wd T ∧ w.grownBy w3 (some m) ∧ w3.heap[w.heap.size]? = some (.stringIter ⟨c.toArray⟩ pos')) ∧ c.length - w3.iterPos w.heap.size < c.length - wr.iterPos w.heap.size := fun w3 b hb h3 hg3 => by
        obtain ⟨q1, q2⟩ := HW3.out w3 hg3
        refine ⟨⟨pos + n, l1 ++ [(r : Int)], l', hn2, by rw [Hl.out]; simp, Hsc2.out, fun h => by simp at h, fun _ => by omega, by rw [Hms.out]; congr 1; split <;> omega, by rw [hb], h3, q1, q2⟩, ?_⟩
        simp only [World.iterPos, q2, Hit.out]
        omega
      have Hnew := Lib.hid hnew
      clear hnew
      generalize maxW T wd l1 = mx at *
      go_wp2_with fail
      refine Hof.out.mono ?_
      rintro e w3 ⟨rfl, h3, hg3⟩
      have hes := Hes.out
      rcases heb : emoW l1 with _ | _
      · rw [heb, Bool.false_or] at hes
        by_cases hl1 : l1 = []
        · obtain rfl : pos = 0 := Hpz.out.1 hl1
          have hb : false = emoW (l1 ++ [(r : Int)]) := by rw [hes, hl1]; rfl
          clear hes heb
          have Hb := Lib.hid hb
          clear hb
          go_wp2_with fail
          go_roundw
          case rel => first | exact (Hnew.out w3 false Hb.out h3 hg3).1 | (rw [max_if]; exact (Hnew.out w3 false Hb.out h3 hg3).1)
          case measure => exact (Hnew.out w3 false Hb.out h3 hg3).2
        · have hp1 : 0 < pos := Hpz.out.2 hl1
          by_cases hr : r = 65039
          · have hb : true = emoW (l1 ++ [(r : Int)]) := by rw [hes]; simp [hl1, hr]
            have hr2 : (r : Int) = 65039 := by omega
            clear hes heb hr
            have Hb := Lib.hid hb
            clear hb
            go_wp2_with fail
            go_roundw
            case rel => first | exact (Hnew.out w3 true Hb.out h3 hg3).1 | (rw [max_if]; exact (Hnew.out w3 true Hb.out h3 hg3).1)
            case measure => exact (Hnew.out w3 true Hb.out h3 hg3).2
          · have hb : false = emoW (l1 ++ [(r : Int)]) := by rw [hes]; simp; omega
            have hr2 : ¬ (r : Int) = 65039 := by omega
            have hr3 : ((r : Int) == 65039) = false := beq_eq_false_iff_ne.2 hr2
            clear hes heb hr
            have Hb := Lib.hid hb
            clear hb
            go_wp2_with fail
            go_roundw
            case rel => first | exact (Hnew.out w3 false Hb.out h3 hg3).1 | (rw [max_if]; exact (Hnew.out w3 false Hb.out h3 hg3).1)
            case measure => exact (Hnew.out w3 false Hb.out h3 hg3).2
      · rw [heb, Bool.true_or] at hes
        have hb : true = emoW (l1 ++ [(r : Int)]) := hes.symm
        clear hes heb
        have Hb := Lib.hid hb
        clear hb
        go_wp2_with fail
        go_roundw
        case rel => first | exact (Hnew.out w3 true Hb.out h3 hg3).1 | (rw [max_if]; exact (Hnew.out w3 true Hb.out h3 hg3).1)
        case measure => exact (Hnew.out w3 true Hb.out h3 hg3).2
    · have hl2 : l2 = [] := by
        rw [List.drop_eq_nil_of_le hge] at hsc
        cases hsc
        rfl
      subst hl2
      rw [List.append_nil] at hl
      subst hl
      have hnx : ∀ ty, (Instr.next (.pointer (some ⟨w.heap.size, 0, none⟩)) true ty).run Tryz.prog wr = .ok (.tuple #[.bool false]) wr := fun ty => Lib.run_next_end_at wr w.heap.size ⟨c.toArray⟩ pos ty hit (by rw [hsz]; omega)
      have hcl : clusW T wd l = if emoW l = true ∧ 0 < maxW T wd l then 2 else maxW T wd l := rfl
      clear h0 hp0 hsc hit
      generalize maxW T wd l = mx at *
      rcases hem : emoW l with _ | _
      · rw [hem] at hcl
        have hz : clusW T wd l = mx := by simpa using hcl
        have Hz := Lib.hid hz
        clear hcl hz
        go_wp2_with fail
        go_ret
        exact ⟨by rw [Hz.out]; rfl, HS.out, HG.out⟩
      · rw [hem] at hcl
        by_cases hm : 0 < mx
        · have hz : clusW T wd l = 2 := by simpa [hm] using hcl
          have Hz := Lib.hid hz
          clear hcl hz
          go_wp2_with fail
          go_ret
          exact ⟨by rw [Hz.out]; rfl, HS.out, HG.out⟩
        · have hz : clusW T wd l = mx := by simpa [hm] using hcl
          have Hz := Lib.hid hz
          clear hcl hz
          go_wp2_with fail
          go_ret
          exact ⟨by rw [Hz.out]; rfl, HS.out, HG.out⟩
end Go.Vir


namespace Go.Vir
open Go Go.RowKit Go.Proofs
attribute [local go_sem] Oper.semAt_some

set_option maxHeartbeats 4000000 in
theorem scalar_Valid (s : List UInt8) (p q : Addr) (w : World) (hs : s.length ≤ 1000000) (hg : ScaG w p q) :
    Calls Tryz.prog 142 #[.string ⟨s.toArray⟩] w fun e w' => e = .returned (.bool (scalarsU s).isSome) ∧ Below w.heap.size w w' := by
  have Hs := Lib.hid (scalar_Scalars s p q w hs hg)
  go_enter Tryz.func142, Tryz.ntmps142
  go_wp2_with fail
  refine Hs.out.mono ?_
  rintro e w' ⟨h, hb⟩
  unfold ScP at h
  rcases hsc : scalarsU s with _ | l
  · rw [hsc] at h
    subst h
    go_wp2_with fail
    go_ret
    exact ⟨by rw [hsc]; rfl, hb⟩
  · rw [hsc] at h
    obtain ⟨A, n, c, rfl, _⟩ := h
    go_wp2_with fail
    go_ret
    exact ⟨by rw [hsc]; rfl, hb⟩
end Go.Vir


namespace Go.Vir
open Go Go.RowKit Go.Proofs
attribute [local go_sem] Oper.semAt_some

theorem width_isBad (s : List UInt8) (p q : Addr) (w : World) (hs : s.length ≤ 1000000) (hg : ScaG w p q) :
    Calls Tryz.prog 104 #[.string ⟨s.toArray⟩] w fun e w' => e = .returned (.bool (!(scalarsU s).isSome)) ∧ Below w.heap.size w w' := by
  have Hs := Lib.hid (scalar_Valid s p q w hs hg)
  generalize (scalarsU s).isSome = b at *
  go_enter Tryz.func104, Tryz.ntmps104
  go_wp2_with fail
  refine Hs.out.mono ?_
  rintro e w' ⟨rfl, hb⟩
  go_wp2_with fail
  go_ret
  exact ⟨rfl, hb⟩

def OpenP (B : Nat) (Ai : Option Addr) (ni ci : Nat) (Ab : Option Addr) (nb cb : Nat) (wd : Bool) (T : TrV) (cs : List (List UInt8)) (p u : Addr) (e : Ending) (w' : World) : Prop :=
  (chkW T cs = 130 ∧ e = .returned (.tuple #[.pointer none, .iface 324 (.pointer (some p))])) ∨
  (chkW T cs = 11 ∧ e = .returned (.tuple #[.pointer none, .iface 324 (.pointer (some u))])) ∨
  (chkW T cs = 0 ∧ ∃ rb m, e = .returned (.tuple #[.pointer (some ⟨rb, 0, none⟩), .nilIface]) ∧ RulS w' B rb m Ai ni ci Ab nb cb wd T)
theorem right_of_w {T : TrV} (h : rightW T = true) : rightT T = true := by
  unfold rightW at h
  simp only [Bool.and_eq_true] at h
  exact h.1

set_option maxRecDepth 100000 in
set_option maxHeartbeats 4000000 in
theorem width_open (Ai : Option Addr) (ni ci : Nat) (Ab : Option Addr) (nb cb : Nat) (wd : Bool) (T : TrV) (A : Option Addr) (n c : Nat) (cs : List (List UInt8)) (p q u p2 q2 : Addr) (w : World) (hT : Tri w w.heap.size Ai ni Ab nb T) (hi : ni ≤ 1000000) (hnb : nb ≤ 1000000) (hbs : ∀ b ∈ T.bl, b.length ≤ 1000000)
    (hx : Strs w w.heap.size A n cs) (hn : n ≤ 1000000) (hcs : ∀ x ∈ cs, x.length ≤ 1000000) (hg : WidG w p q u) (hs : ScaG w p2 q2) :
    Calls Tryz.prog 58 #[.agg #[.slice Ai ni ci, .slice Ab nb cb, .bool wd], .slice A n c] w fun e w' => OpenP w.heap.size Ai ni ci Ab nb cb wd T cs p u e w' ∧ Below w.heap.size w w' := by
  have hbw : Below w.heap.size w (w.alloc (.cells #[.slice Ai ni ci, .slice Ab nb cb, .bool wd] 42)) := by go_grown
  have hrt := width_Right Ai ni ci Ab nb cb wd T (w.alloc (.cells #[.slice Ai ni ci, .slice Ab nb cb, .bool wd] 42)) ((hT.below hbw).more hbw.size) hi hnb hbs
  have hct := fun (W : World) (hW : Below w.heap.size w W) => containsFunc_str A n c cs W (g := 104) (p := fun s => !(scalarsU s).isSome) (enters_of Tryz.func104 (by kernel_rfl) rfl) ((hx.below hW).more hW.size) hcs (fun s W2 hW2 hl => width_isBad s p2 q2 W2 hl ((hs.below hW).below hW2)) hn
  have Hrt := Lib.hid hrt
  have Hct := Lib.hid hct
  have HT := Lib.hid hT
  have Hg := Lib.hid hg
  have Hbw := Lib.hid hbw
  have hg1 := (hg.below hbw).wd
  have hmm := @run_makeMap Tryz.prog
  clear hrt hct hT hx hs hcs hg
  go_enter Tryz.func58, Tryz.ntmps58
  go_wp2_with fail
  refine wp_scope_once ?_
  generalize hQl : landed _ _ _ = Ql
  go_wp2_with fail
  rcases hR : rightW T with _ | _
  · rw [hR] at Hrt
    have hck : chkW T cs = 130 := by unfold chkW; rw [if_neg (by rw [hR]; simp)]
    have Hck := Lib.hid hck
    clear hck hR
    refine Hrt.out.mono ?_
    rintro e w1 ⟨rfl, hb1⟩
    have hbf := Hbw.out.trans (hb1.mono Hbw.out.size)
    go_wp2_with fail
    go_step3
    go_simp
    subst hQl
    refine landed_goto (by rfl) ?_
    go_wp2_with fail
    rw [Exit.noGoto_ret]
    go_ret2
    exact ⟨.inl ⟨Hck.out, rfl⟩, hbf⟩
  · rw [hR] at Hrt
    have hck : chkW T cs = if cs.all (fun c => (scalarsU c).isSome) = true then 0 else 11 := by unfold chkW; rw [if_pos hR]
    have hrt := right_of_w hR
    refine Hrt.out.mono ?_
    rintro e w1 ⟨rfl, hb1⟩
    have hbf := Hbw.out.trans (hb1.mono Hbw.out.size)
    have hg2 := (Hg.out.below hbf).ut
    have hx1 := (hb1.block w.heap.size (by simp)).trans (heap_new rfl)
    have e0 := cell_blk hx1 0
    have e1 := cell_blk hx1 1
    have e2 := cell_blk hx1 2
    have hct := Hct.out w1 hbf
    rcases ha : (cs.any fun s => !(scalarsU s).isSome) with _ | _
    · rw [ha] at hct
      have hal : cs.all (fun c => (scalarsU c).isSome) = true := by
        rw [List.all_eq_true]
        intro y hy
        have := List.any_eq_false.1 ha y hy
        cases hq : scalarsU y with
        | none => rw [hq] at this; exact absurd rfl this
        | some v => rfl
      rw [if_pos hal] at hck
      have Hck := Lib.hid hck
      have Hc := Lib.hid hct
      clear hck hct ha hal
      go_wp2_with fail
      refine Hc.out.mono ?_
      rintro e w2 ⟨rfl, hb2⟩
      have hx2 := (hb2.block w.heap.size (Array.getElem?_eq_some_iff.1 hx1).1).trans hx1
      have f0 := cell_blk hx2 0
      have f1 := cell_blk hx2 1
      have f2 := cell_blk hx2 2
      have hbf2 := hbf.trans (hb2.mono hbf.size)
      have hru : RulS ((w2.alloc (.map #[] 0)).alloc (.cells #[.slice Ai ni ci, .slice Ab nb cb, .bool wd, .map (some w2.heap.size)] 158)) w.heap.size (w2.heap.size + 1) w2.heap.size Ai ni ci Ab nb cb wd T :=
        ⟨heap_new (by simp), ⟨#[], 0, [], (heap_old (by simp)).trans (heap_new rfl), rfl, fun k v h => by cases h⟩, HT.out.below (hbf2.trans (by refine Below.mono (B := w2.heap.size) ?_ hbf2.size; go_grown)), hbf2.size, by have := hbf2.size; omega, hrt, hi, hnb⟩
      have Hru := Lib.hid hru
      have hbl : Below w.heap.size w ((w2.alloc (.map #[] 0)).alloc (.cells #[.slice Ai ni ci, .slice Ab nb cb, .bool wd, .map (some w2.heap.size)] 158)) := hbf2.trans (by refine Below.mono (B := w2.heap.size) ?_ hbf2.size; go_grown)
      have Hbl := Lib.hid hbl
      clear hru hbl hx2 hx1 e0 e1 e2
      go_wp2_with fail
      subst hQl
      rw [landed_ret]
      go_ret2
      exact ⟨.inr (.inr ⟨Hck.out, _, _, rfl, Hru.out⟩), Hbl.out⟩
    · rw [ha] at hct
      have hal : ¬ cs.all (fun c => (scalarsU c).isSome) = true := by
        rw [List.all_eq_true]
        intro h
        obtain ⟨y, hy, h2⟩ := List.any_eq_true.1 ha
        rw [h y hy] at h2
        cases h2
      rw [if_neg hal] at hck
      have Hck := Lib.hid hck
      have Hc := Lib.hid hct
      clear hck hct ha hal
      go_wp2_with fail
      refine Hc.out.mono ?_
      rintro e w2 ⟨rfl, hb2⟩
      have hbf2 := hbf.trans (hb2.mono hbf.size)
      go_wp2_with fail
      go_step3
      go_simp
      subst hQl
      refine landed_goto (by rfl) ?_
      go_wp2_with fail
      rw [Exit.noGoto_ret]
      go_ret2
      exact ⟨.inr (.inl ⟨Hck.out, rfl⟩), hbf2⟩
end Go.Vir


namespace Go.Vir
open Go Go.RowKit Go.Proofs
attribute [local go_sem] Oper.semAt_some

theorem below_grown {w V W : World} {m : Nat} (h : Below w.heap.size w V) (k : V.grownBy W (some m)) (hm : w.heap.size ≤ m) : Below w.heap.size w W :=
  ⟨k.os.trans h.os, k.tape.trans h.tape, k.output.trans h.output, Nat.le_trans h.size k.size, fun j hj => (k.block j (Nat.lt_of_lt_of_le hj h.size) (fun e => by injection e with e; omega)).trans (h.block j hj)⟩
theorem strs_nil (w : World) (B : Nat) : Strs w B none 0 [] := ⟨rfl, fun h => absurd h (by omega)⟩

set_option maxRecDepth 100000 in
set_option maxHeartbeats 4000000 in
theorem width_Of (Ai : Option Addr) (ni ci : Nat) (Ab : Option Addr) (nb cb : Nat) (wd : Bool) (T : TrV) (r : Int) (p q u p2 q2 : Addr) (w : World) (hT : Tri w w.heap.size Ai ni Ab nb T) (hi : ni ≤ 1000000) (hnb : nb ≤ 1000000) (hbs : ∀ b ∈ T.bl, b.length ≤ 1000000)
    (hg : WidG w p q u) (hs : ScaG w p2 q2) :
    Calls Tryz.prog 27 #[.agg #[.slice Ai ni ci, .slice Ab nb cb, .bool wd], .int .i64 r] w fun e w' => e = .returned (.tuple #[.int .i64 (ofW T wd r).1, .int .i64 (ofW T wd r).2]) ∧ Below w.heap.size w w' := by
  have hbw : Below w.heap.size w (w.alloc (.cells #[.slice Ai ni ci, .slice Ab nb cb, .bool wd] 42)) := by go_grown
  have hop := width_open Ai ni ci Ab nb cb wd T none 0 0 [] p q u p2 q2 (w.alloc (.cells #[.slice Ai ni ci, .slice Ab nb cb, .bool wd] 42)) ((hT.below hbw).more hbw.size) hi hnb hbs (strs_nil _ _) (by omega) (fun x hx => by cases hx) (hg.below hbw) (hs.below hbw)
  have hchk : chkW T [] = if rightW T = true then 0 else 130 := rfl
  have hof : ofW T wd r = if rightW T = true then (if scaR r = true then (widT T wd r, 0) else (0, 10)) else (0, 130) := rfl
  have Hop := Lib.hid hop
  have Hbw := Lib.hid hbw
  have Hg := Lib.hid hg
  have Hchk := Lib.hid hchk
  have Hof := Lib.hid hof
  clear hop hbw hg hs hT hchk hof
  go_enter Tryz.func27, Tryz.ntmps27
  go_wp2_with fail
  refine Hop.out.mono ?_
  rintro e w1 ⟨h1, hb1⟩
  have hbf := Hbw.out.trans (hb1.mono Hbw.out.size)
  rcases h1 with ⟨hc, rfl⟩ | ⟨hc, rfl⟩ | ⟨hc, rb, m, rfl, hru⟩
  · have hR : ¬ rightW T = true := fun h => by rw [Hchk.out, if_pos h] at hc; cases hc
    have ho : ofW T wd r = (0, 130) := by rw [Hof.out, if_neg hR]
    have Ho := Lib.hid ho
    have htd := width_told_width p q u w1 (Hg.out.below hbf)
    have Htd := Lib.hid htd
    clear hR ho hc htd
    go_wp2_with fail
    refine Htd.out.mono ?_
    rintro e w2 ⟨rfl, rfl⟩
    go_wp2_with fail
    go_ret2
    exact ⟨by rw [Ho.out]; rfl, hbf⟩
  · rw [Hchk.out] at hc
    split at hc <;> cases hc
  · have hR : rightW T = true := by
      rw [Hchk.out] at hc
      split at hc
      · assumption
      · cases hc
    have hsr := scalar_Right r w1
    rcases hsc : scaR r with _ | _
    · have ho : ofW T wd r = (0, 10) := by rw [Hof.out, if_pos hR, hsc]; rfl
      have Ho := Lib.hid ho
      rw [hsc] at hsr
      have Hsr := Lib.hid hsr
      clear hsr hsc ho hR hc hru
      go_wp2_with fail
      refine Hsr.out.mono ?_
      rintro e w2 ⟨rfl, hb2⟩
      have hbf2 := hbf.trans (hb2.mono hbf.size)
      have hg2 := (Hg.out.below hbf2).sc
      have htd := width_told_scalar p q u w2 (Hg.out.below hbf2)
      have Htd := Lib.hid htd
      clear htd
      go_wp2_with fail
      refine Htd.out.mono ?_
      rintro e w3 ⟨rfl, rfl⟩
      go_wp2_with fail
      go_ret2
      exact ⟨by rw [Ho.out]; rfl, hbf2⟩
    · have ho : ofW T wd r = (widT T wd r, 0) := by rw [Hof.out, if_pos hR, hsc]; rfl
      obtain ⟨hr0, hr1⟩ := sca_bounds hsc
      have Ho := Lib.hid ho
      rw [hsc] at hsr
      have Hsr := Lib.hid hsr
      have Hru := Lib.hid hru
      have hw32 : IntKind.i32.wrap r = r := by rw [IntKind.wrap_i32]; omega
      clear hsr hsc ho hR hc hru
      go_wp2_with fail
      refine Hsr.out.mono ?_
      rintro e w2 ⟨rfl, hb2⟩
      have hbf2 := hbf.trans (hb2.mono hbf.size)
      have hru2 := Hru.out.keep hb2
      have hwm : w.heap.size ≤ m := by have := hru2.bm; simp at this; omega
      have hcl := ruler_of _ rb m Ai ni ci Ab nb cb wd T r w2 hru2 hr0 hr1
      have Hcl := Lib.hid hcl
      clear hcl hru2
      go_wp2_with fail
      refine Hcl.out.mono ?_
      rintro e w3 ⟨rfl, hru3, hg3⟩
      go_wp2_with fail
      go_ret2
      exact ⟨by rw [Ho.out]; rfl, below_grown hbf2 hg3 hwm⟩

set_option maxRecDepth 100000 in
set_option maxHeartbeats 4000000 in
theorem width_Cluster (Ai : Option Addr) (ni ci : Nat) (Ab : Option Addr) (nb cb : Nat) (wd : Bool) (T : TrV) (s : List UInt8) (p q u p2 q2 : Addr) (w : World) (hT : Tri w w.heap.size Ai ni Ab nb T) (hi : ni ≤ 1000000) (hnb : nb ≤ 1000000) (hbs : ∀ b ∈ T.bl, b.length ≤ 1000000)
    (hl : s.length ≤ 1000000) (hg : WidG w p q u) (hs : ScaG w p2 q2) :
    Calls Tryz.prog 36 #[.agg #[.slice Ai ni ci, .slice Ab nb cb, .bool wd], .string ⟨s.toArray⟩] w fun e w' => e = .returned (.tuple #[.int .i64 (cluW T wd s).1, .int .i64 (cluW T wd s).2]) ∧ Below w.heap.size w w' := by
  obtain ⟨W1, hW1⟩ : ∃ W1, W1 = (w.alloc (.cells #[.slice Ai ni ci, .slice Ab nb cb, .bool wd] 42)).alloc (.cells #[.string ⟨s.toArray⟩] 9) := ⟨_, rfl⟩
  have hbw : Below w.heap.size w W1 := by rw [hW1]; go_grown
  have hs1 : W1.heap.size = w.heap.size + 2 := by rw [hW1]; simp
  have hx : Strs W1 W1.heap.size (some ⟨w.heap.size + 1, 0, none⟩) 1 [s] := ⟨rfl, fun _ => ⟨_, 0, rfl, by omega, fun j hj => by
    obtain rfl : j = 0 := by simpa using hj
    rw [hW1]
    exact cell_blk (heap_new (by simp)) 0⟩⟩
  have hop := width_open Ai ni ci Ab nb cb wd T (some ⟨w.heap.size + 1, 0, none⟩) 1 1 [s] p q u p2 q2 W1 ((hT.below hbw).more hbw.size) hi hnb hbs hx (by omega) (fun x hx => by rw [List.mem_singleton.1 hx]; exact hl) (hg.below hbw) (hs.below hbw)
  have hcl : cluW T wd s = if chkW T [s] = 0 then (sumW T wd [s], 0) else (0, chkW T [s]) := rfl
  have Hop := Lib.hid hop
  have Hbw := Lib.hid hbw
  have Hg := Lib.hid hg
  have Hcl := Lib.hid hcl
  clear hop hbw hg hs hT hcl hx
  go_enter Tryz.func36, Tryz.ntmps36
  go_wp2_with fail
  rw [← hW1]
  clear hW1
  refine Hop.out.mono ?_
  rintro e w1 ⟨h1, hb1⟩
  have hbf := Hbw.out.trans (hb1.mono Hbw.out.size)
  rcases h1 with ⟨hc, rfl⟩ | ⟨hc, rfl⟩ | ⟨hc, rb, m, rfl, hru⟩
  · have ho : cluW T wd s = (0, 130) := by rw [Hcl.out, hc]; rfl
    have Ho := Lib.hid ho
    have htd := width_told_width p q u w1 (Hg.out.below hbf)
    have Htd := Lib.hid htd
    clear ho hc htd
    go_wp2_with fail
    refine Htd.out.mono ?_
    rintro e w2 ⟨rfl, rfl⟩
    go_wp2_with fail
    go_ret2
    exact ⟨by rw [Ho.out]; rfl, hbf⟩
  · have ho : cluW T wd s = (0, 11) := by rw [Hcl.out, hc]; rfl
    have Ho := Lib.hid ho
    have htd := width_told_utf p q u w1 (Hg.out.below hbf)
    have Htd := Lib.hid htd
    clear ho hc htd
    go_wp2_with fail
    refine Htd.out.mono ?_
    rintro e w2 ⟨rfl, rfl⟩
    go_wp2_with fail
    go_ret2
    exact ⟨by rw [Ho.out]; rfl, hbf⟩
  · obtain ⟨l, hsl⟩ : ∃ l, scalarsU s = some l := by
      unfold chkW at hc
      split at hc
      · split at hc
        · rename_i h
          have := List.all_eq_true.1 h s (List.mem_singleton.2 rfl)
          cases hq : scalarsU s with
          | none => rw [hq] at this; cases this
          | some l => exact ⟨l, rfl⟩
        · cases hc
      · cases hc
    have ho : cluW T wd s = (clusW T wd l, 0) := by
      rw [Hcl.out, hc]
      simp [sumW, clusS, hsl]
    have Ho := Lib.hid ho
    have hwm : w.heap.size ≤ m := by have := hru.bm; omega
    have hcc := ruler_cluster _ rb m Ai ni ci Ab nb cb wd T s l w1 hru hsl hl
    have Hcc := Lib.hid hcc
    clear ho hc hcc hru hsl
    go_wp2_with fail
    refine Hcc.out.mono ?_
    rintro e w2 ⟨rfl, hru2, hg2⟩
    go_wp2_with fail
    go_ret2
    exact ⟨by rw [Ho.out]; rfl, below_grown hbf hg2 hwm⟩
end Go.Vir


namespace Go.Vir
open Go Go.RowKit Go.Proofs
attribute [local go_sem] Oper.semAt_some

theorem sums_make (a : Addr) (A : Option Addr) (n c : Nat) (w : World) : Calls Tryz.prog 74 #[.pointer (some a), .slice A n c] w fun e w' => e = .returned (.func (.func 113) #[] #[.pointer (some ⟨w.heap.size + 1, 0, none⟩), .pointer (some ⟨w.heap.size, 0, none⟩)]) ∧ (w.alloc (.cells #[.pointer (some a)] 91)).alloc (.cells #[.slice A n c] 22) = w' := by
  go_enter Tryz.func74, Tryz.ntmps74
  go_wp2
  go_ret
  exact ⟨rfl, rfl⟩
section
variable {W W' : World} {B n ni nb : Nat} {A Ai Ab : Option Addr}
theorem Ints.lowB {l : List Int} (h : Ints W B A n l) (hk : ∀ k, k < B → W'.heap[k]? = W.heap[k]?) : Ints W' B A n l :=
  ⟨h.len, fun hn => let ⟨b, o, e, hlt, hc⟩ := h.at_ hn; ⟨b, o, e, hlt, fun j hj => (World.cell?_of_block (a := ⟨b, o + j, none⟩) (hk b hlt)).trans (hc j hj)⟩⟩
theorem Intss.lowB {bs : List (List Int)} (h : Intss W B A n bs) (hk : ∀ k, k < B → W'.heap[k]? = W.heap[k]?) : Intss W' B A n bs :=
  ⟨h.len, fun hn => let ⟨b, o, e, hlt, hc⟩ := h.at_ hn; ⟨b, o, e, hlt, fun j hj => let ⟨A', n', c', h1, h2, h3⟩ := hc j hj; ⟨A', n', c', (World.cell?_of_block (a := ⟨b, o + j, none⟩) (hk b hlt)).trans h1, h2.lowB hk, h3⟩⟩⟩
theorem RulS.low {rb m ci cb : Nat} {wd : Bool} {T : TrV} (h : RulS W B rb m Ai ni ci Ab nb cb wd T) (h1 : W'.heap[rb]? = W.heap[rb]?) (h2 : W'.heap[m]? = W.heap[m]?) (hk : ∀ k, k < B → W'.heap[k]? = W.heap[k]?) : RulS W' B rb m Ai ni ci Ab nb cb wd T := by
  obtain ⟨es, ck, kvs, g1, g2, g3⟩ := h.mp
  exact ⟨h1.trans h.bx, ⟨es, ck, kvs, h2.trans g1, g2, g3⟩, ⟨h.tr.ix.lowB hk, h.tr.bl.lowB hk⟩, h.bm, h.br, h.rt, h.hni, h.hnb⟩
end

set_option maxRecDepth 100000 in
set_option maxHeartbeats 8000000 in
theorem sums_iter (B b1 b2 rb m : Nat) (Ai : Option Addr) (ni ci : Nat) (Ab : Option Addr) (nb cb : Nat) (wd : Bool) (T : TrV) (A : Option Addr) (n c : Nat) (cs : List (List UInt8)) (W0 : World) (hB1 : B ≤ b1) (hz1 : b1 < W0.heap.size) (hz2 : b2 < W0.heap.size) (hn1 : b1 ≠ m) (hn2 : b2 ≠ m)
    (hS : RulS W0 B rb m Ai ni ci Ab nb cb wd T) (c1 : W0.heap[b1]? = some (.cells #[.slice A n c] 22 (0, 0))) (c2 : W0.heap[b2]? = some (.cells #[.pointer (some ⟨rb, 0, none⟩)] 91 (0, 0))) (hx : Strs W0 B A n cs) (hn : n ≤ 1000000) (hcs : ∀ x ∈ cs, x.length ≤ 1000000 ∧ (scalarsU x).isSome = true) :
    Iter Tryz.prog 113 #[.pointer (some ⟨b1, 0, none⟩), .pointer (some ⟨b2, 0, none⟩)] n (fun i => #[.int .i64 ((i : Int) + 1), .int .i64 (sumW T wd (cs.take (i + 1)))]) (fun k => (k = b1 ∨ k = b2) ∨ (k = rb ∨ k = m)) B W0 := by
  intro lp J Jx W hW hJ hJx hY h0
  have hlen := hx.len
  have HY := Lib.hid hY
  have HJ := Lib.hid hJ
  have Hlen := Lib.hid hlen
  have Hcs := Lib.hid hcs
  have Hx := Lib.hid hx
  have hd1 := (hW.block b1 hz1).trans c1
  have hd2 := (hW.block b2 hz2).trans c2
  have hS0 := hS.keep hW
  have hlow := fun k (hk : k < B) => hW.block k (show k < W0.heap.size by omega)
  clear hY hJ hlen hcs hx
  refine callsIn_wide.2 ?_
  have e1 : W.cell? ⟨b1, 0, none⟩ = some (.slice A n c) := cell_blk hd1 0
  go_enter Tryz.func113, Tryz.ntmps113
  go_wp2
  go_step3
  go_wp2
  go_step3
  go_wp2
  go_loopw [9, 4] (fun t9 t4 wr => ∃ i : Nat, i ≤ n ∧ t9 = .int .i64 (i : Int) ∧ t4 = .int .i64 (sumW T wd (cs.take i)) ∧ J i wr ∧ wr.heap[b1]? = some (.cells #[.slice A n c] 22 (0, 0)) ∧ wr.heap[b2]? = some (.cells #[.pointer (some ⟨rb, 0, none⟩)] 91 (0, 0)) ∧ RulS wr B rb m Ai ni ci Ab nb cb wd T ∧ (∀ k, k < B → wr.heap[k]? = W0.heap[k]?)) (fun t9 _ _ => n - (RowKit.intOf t9).toNat)
  case atStart => exact ⟨0, Nat.zero_le _, rfl, rfl, h0, hd1, hd2, hS0, hlow⟩
  case round =>
    obtain ⟨i, hi, rfl, rfl, hJi, d1, d2, hSi, hlw⟩ := hrel
    obtain ⟨wo, hwo⟩ : ∃ wo, wo = wr := ⟨_, rfl⟩
    subst hwo
    have e2 : wo.cell? ⟨b2, 0, none⟩ = some (.pointer (some ⟨rb, 0, none⟩)) := cell_blk d2 0
    have Hw := Lib.hid (And.intro hJi (And.intro d1 (And.intro d2 (And.intro hSi hlw))))
    clear hJi d1 d2 hSi hlw hd1 hd2 hS0 hlow h0 e1
    rcases Nat.lt_or_ge i n with hlt | hge
    · have hil : i < cs.length := by rw [Hlen.out]; exact hlt
      obtain ⟨xb, xo, rfl, hxb, hxc⟩ := Hx.out.at_ (by omega)
      have u0 := (World.cell?_of_block (a := ⟨xb, xo + i, none⟩) (Hw.out.2.2.2.2 xb hxb)).trans (hxc i hil)
      obtain ⟨g1, g2⟩ := Hcs.out cs[i] (List.getElem_mem hil)
      obtain ⟨l, hsl⟩ := Option.isSome_iff_exists.1 g2
      have hcl := ruler_cluster B rb m Ai ni ci Ab nb cb wd T cs[i] l wo Hw.out.2.2.2.1 hsl g1
      have hsn : sumW T wd (cs.take (i + 1)) = sumW T wd (cs.take i) + clusW T wd l := by
        rw [List.take_succ_eq_append_getElem hil, sumW_snoc]
        unfold clusS
        rw [hsl]; rfl
      have hse := sumW_ends T wd (cs.take i)
      rw [List.length_take] at hse
      have hce := clusW_ends T wd l
      have Hcl := Lib.hid hcl
      have Hsn := Lib.hid hsn
      clear hcl hsn hxc g1 g2 hsl
      generalize clusW T wd l = y at *
      generalize sumW T wd (cs.take i) = z at *
      generalize cs[i] = ci0 at *
      go_wp2_with fail
      refine Hcl.out.mono ?_
      rintro e w3 ⟨rfl, hru3, hg3⟩
      have hb1l : b1 < wo.heap.size := (Array.getElem?_eq_some_iff.1 Hw.out.2.1).1
      have hb2l : b2 < wo.heap.size := (Array.getElem?_eq_some_iff.1 Hw.out.2.2.1).1
      have hd13 := (hg3.block b1 hb1l (fun e => hn1 (by injection e))).trans Hw.out.2.1
      have hd23 := (hg3.block b2 hb2l (fun e => hn2 (by injection e))).trans Hw.out.2.2.1
      have hlw3 : ∀ k, k < B → w3.heap[k]? = W0.heap[k]? := fun k hk => (hg3.block k (by omega) (fun e => by injection e with e; have := hru3.bm; omega)).trans (Hw.out.2.2.2.2 k hk)
      have hy := HY.out i w3 hlt (HJ.out i wo w3 Hw.out.1 (Apart.grown hg3 (.inr (.inr rfl))))
      rw [Hsn.out] at hy
      have hwr : IntKind.i64.wrap (z + y) = z + y := wraps_i64 _ (by omega) (by omega)
      obtain ⟨fn, tmps, assign, body, hy, hR⟩ := hy
      have H3 := Lib.hid (And.intro hru3 (And.intro hd13 (And.intro hd23 hlw3)))
      clear hru3 hg3 hd13 hd23 hlw3
      go_upto_region 5 with fail
      refine (wpIn_wide (n := 0)).1 ?_
      gi_wp2
      refine ⟨rfl, hR.mono ?_⟩
      rintro e W' (⟨rfl, hJ', hk'⟩ | ⟨rfl, hJx'⟩)
      · have d1' := (hk'.own _ (.inl (.inl rfl))).trans H3.out.2.1
        have d2' := (hk'.own _ (.inl (.inr rfl))).trans H3.out.2.2.1
        have hru' := H3.out.1.low (hk'.own _ (.inr (.inl rfl))) (hk'.own _ (.inr (.inr rfl))) hk'.low
        have hlw' : ∀ k, k < B → W'.heap[k]? = W0.heap[k]? := fun k hk => (hk'.low k hk).trans (H3.out.2.2.2 k hk)
        have Hn := Lib.hid (And.intro hJ' (And.intro d1' (And.intro d2' (And.intro hru' hlw'))))
        clear hJ' hk' d1' hlw' d2' hru'
        gi_wp2
        go_wp2
        go_roundw
        case rel => exact ⟨i + 1, by omega, by go_num, by rw [Hsn.out], Hn.out.1, Hn.out.2.1, Hn.out.2.2.1, Hn.out.2.2.2.1, Hn.out.2.2.2.2⟩
        case measure => simp [RowKit.intOf]; omega
      · gi_wp2
        go_wp2
        try simp only [Exit.noGoto]
        go_end0
        exact ⟨⟨_, rfl⟩, .inr ⟨i, by omega, hJx'⟩⟩
    · obtain rfl : i = n := by omega
      go_wp2_with fail
      try simp only [Exit.noGoto]
      go_end0
      exact ⟨⟨_, rfl⟩, .inl Hw.out.1⟩
end Go.Vir


namespace Go.Vir
open Go Go.RowKit Go.Proofs
attribute [local go_sem] Oper.semAt_some

theorem cells3 {W : World} {b : Nat} {u v z : Value} {t : TypeId} (h : W.heap[b]? = some (.cells #[u, v, z] t (0, 0))) : W.cell? ⟨b, 0, none⟩ = some u ∧ W.cell? ⟨b, 1, none⟩ = some v ∧ W.cell? ⟨b, 2, none⟩ = some z := ⟨cell_blk h 0, cell_blk h 1, cell_blk h 2⟩
theorem cells2 {W : World} {b : Nat} {u v : Value} {t : TypeId} (h : W.heap[b]? = some (.cells #[u, v] t (0, 0))) : W.cell? ⟨b, 0, none⟩ = some u ∧ W.cell? ⟨b, 1, none⟩ = some v := ⟨cell_blk h 0, cell_blk h 1⟩
theorem results_widths_t {f : Func} {ts : Array Value} {W : World} {a : Nat} {u v z x y : Value} {s t r : Tmp} (hf : f.results = #[.cell s 42, .tmp t, .tmp r]) (hs : ts[s]? = some (.pointer (some ⟨a, 0, none⟩))) (ht : ts[t]? = some x) (hr : ts[r]? = some y)
    (h0 : W.cell? ⟨a, 0, none⟩ = some u) (h1 : W.cell? ⟨a, 1, none⟩ = some v) (h2 : W.cell? ⟨a, 2, none⟩ = some z) :
    (results f ts).run Tryz.prog W = .ok (.tuple #[.agg #[u, v, z], x, y]) W := by
  simp [results, hf, hs, ht, hr, go_sem, h0, h1, h2]
theorem widths_stored {w V : World} {b : Nat} {u0 v0 z0 : Value} (u v z : Value) (h : V.heap[b]? = some (.cells #[u0, v0, z0] 42 (0, 0))) (hb : Below w.heap.size w V) (hw : w.heap.size ≤ b) :
    (((V.setCell ⟨b, 0, none⟩ u).setCell ⟨b, 1, none⟩ v).setCell ⟨b, 2, none⟩ z).heap[b]? = some (.cells #[u, v, z] 42 (0, 0)) ∧ Below w.heap.size w (((V.setCell ⟨b, 0, none⟩ u).setCell ⟨b, 1, none⟩ v).setCell ⟨b, 2, none⟩ z) ∧
      (∀ k, k ≠ b → (((V.setCell ⟨b, 0, none⟩ u).setCell ⟨b, 1, none⟩ v).setCell ⟨b, 2, none⟩ z).heap[k]? = V.heap[k]?) ∧ (((V.setCell ⟨b, 0, none⟩ u).setCell ⟨b, 1, none⟩ v).setCell ⟨b, 2, none⟩ z).heap.size = V.heap.size := by
  refine ⟨by simp [World.setCell, Array.getElem?_modify, h], ((hb.setCell (p := ⟨b, 0, none⟩) hw u).setCell (p := ⟨b, 1, none⟩) hw v).setCell (p := ⟨b, 2, none⟩) hw z, fun k hk => ?_, by simp [World.setCell]⟩
  simp [World.setCell, Array.getElem?_modify, Ne.symm hk]

end Go.Vir


namespace Go.Vir
open Go Go.Lib

def digN (b : UInt8) : Option Nat :=
  if 48 ≤ b.toNat ∧ b.toNat ≤ 57 then some (b.toNat - 48) else if 97 ≤ b.toNat ∧ b.toNat ≤ 102 then some (b.toNat - 87) else if 65 ≤ b.toNat ∧ b.toNat ≤ 70 then some (b.toNat - 55) else none
def digsN : List UInt8 → Nat → Option Nat
  | [], n => some n
  | b :: t, n => match digN b with
    | some d => digsN t (16 * n + d)
    | none => none
def codeN (s : List UInt8) : Option Nat := if s.length < 4 ∨ 6 < s.length then none else digsN s 0
def dotsL : List UInt8 → Option (List UInt8 × List UInt8)
  | [] => none
  | b :: t => if b = 46 ∧ t.head? = some 46 then some ([], t.drop 1) else (dotsL t).map fun x => (b :: x.1, x.2)
def endsN (s : List UInt8) : Option (Nat × Nat) := match dotsL s with
  | some (h, t) => match codeN h, codeN t with
    | some a, some b => some (a, b)
    | _, _ => none
  | none => (codeN s).map fun n => (n, n)
inductive LineR where
  | none
  | bad (why : Int)
  | rcd (a b : Nat) (fs : List (List UInt8))
def lineN (s : List UInt8) : LineR :=
  if trimL (hashL s) = [] then .none else
  match endsN (((splitL 59 (trimL (hashL s))).map trimL).headD []) with
  | none => .bad 21
  | some (a, b) => if b < a ∨ 1114111 < b then .bad 22 else
    if ((splitL 59 (trimL (hashL s))).map trimL).length < 2 ∨ 21 < ((splitL 59 (trimL (hashL s))).map trimL).length then .bad 23 else .rcd a b ((splitL 59 (trimL (hashL s))).map trimL).tail
structure RecV where
  line : Int
  f : Int
  t : Int
  fs : List (List UInt8)
  deriving DecidableEq
def recsN : List (List UInt8) → Nat → List RecV → List RecV × Int × Int
  | [], _, acc => (acc, 0, 0)
  | t :: ts, k, acc => match lineN t with
    | .none => recsN ts (k + 1) acc
    | .bad w => ([], (k : Int) + 1, w)
    | .rcd a b fs => if acc.length = 300 then ([], (k : Int) + 1, 24) else recsN ts (k + 1) (acc ++ [{ line := (k : Int) + 1, f := (a : Int), t := (b : Int), fs := fs }])
theorem recsN_cons (t : List UInt8) (ts : List (List UInt8)) (k : Nat) (acc : List RecV) : recsN (t :: ts) k acc = match lineN t with
    | .none => recsN ts (k + 1) acc
    | .bad w => ([], (k : Int) + 1, w)
    | .rcd a b fs => if acc.length = 300 then ([], (k : Int) + 1, 24) else recsN ts (k + 1) (acc ++ [{ line := (k : Int) + 1, f := (a : Int), t := (b : Int), fs := fs }]) := by rw [recsN]
def fileN (s : List UInt8) : List RecV × Int × Int := recsN (splitL 10 s) 0 []

theorem digN_lt {b : UInt8} {d : Nat} (h : digN b = some d) : d < 16 := by
  unfold digN at h
  split at h
  · cases h; omega
  · split at h
    · cases h; omega
    · split at h
      · cases h; omega
      · cases h
theorem digsN_lt : ∀ (s : List UInt8) (n m : Nat), digsN s n = some m → m < (n + 1) * 16 ^ s.length
  | [], n, m, h => by cases h; simp
  | b :: t, n, m, h => by
    unfold digsN at h
    rcases hd : digN b with _ | d
    · rw [hd] at h; cases h
    · rw [hd] at h
      have h1 := digN_lt hd
      have h2 := digsN_lt t _ m h
      calc m < (16 * n + d + 1) * 16 ^ t.length := h2
        _ ≤ (16 * (n + 1)) * 16 ^ t.length := Nat.mul_le_mul_right _ (by omega)
        _ = (n + 1) * 16 ^ (b :: t).length := by rw [List.length_cons, Nat.pow_succ, Nat.mul_comm 16, Nat.mul_assoc, Nat.mul_comm 16]
theorem codeN_lt {s : List UInt8} {n : Nat} (h : codeN s = some n) : n < 16777216 := by
  unfold codeN at h
  split at h
  · cases h
  · have h1 := digsN_lt s 0 n h
    have h2 : 16 ^ s.length ≤ 16 ^ 6 := Nat.pow_le_pow_right (by decide) (by omega)
    omega
theorem endsN_lt {s : List UInt8} {a b : Nat} (h : endsN s = some (a, b)) : a < 16777216 ∧ b < 16777216 := by
  unfold endsN at h
  split at h
  · split at h
    · rename_i h1 h2; cases h; exact ⟨codeN_lt h1, codeN_lt h2⟩
    · cases h
  · rcases hc : codeN s with _ | n
    · rw [hc] at h; cases h
    · rw [hc] at h; cases h; exact ⟨codeN_lt hc, codeN_lt hc⟩
theorem dots_len : ∀ {s h t : List UInt8}, dotsL s = some (h, t) → s = h ++ 46 :: 46 :: t
  | [], _, _, hh => by simp [dotsL] at hh
  | b :: s, h, t, hh => by
    unfold dotsL at hh
    split at hh
    · rename_i hc
      obtain ⟨rfl, h2⟩ := hc
      cases hh
      cases s with
      | nil => simp at h2
      | cons c s => simp at h2; subst h2; rfl
    · rcases hd : dotsL s with _ | ⟨x, y⟩
      · rw [hd] at hh; cases hh
      · rw [hd] at hh; cases hh
        rw [dots_len hd]; rfl

def recOk (x : RecV) : Prop := 0 ≤ x.f ∧ x.f ≤ x.t ∧ x.t ≤ 1114111 ∧ 1 ≤ x.fs.length
theorem lineN_ok {s : List UInt8} {a b : Nat} {fs : List (List UInt8)} (h : lineN s = .rcd a b fs) : a ≤ b ∧ b ≤ 1114111 ∧ 1 ≤ fs.length := by
  unfold lineN at h
  split at h
  · cases h
  · split at h
    · cases h
    · split at h
      · cases h
      · split at h
        · cases h
        · rename_i h1 h2
          cases h
          rw [List.length_tail]
          omega
theorem recsN_ok : ∀ (ts : List (List UInt8)) (k : Nat) (acc : List RecV), (∀ x ∈ acc, recOk x) → acc.length ≤ 300 → (∀ x ∈ (recsN ts k acc).1, recOk x) ∧ (recsN ts k acc).1.length ≤ 300
  | [], _, acc, h, hl => ⟨h, hl⟩
  | t :: ts, k, acc, h, hl => by
    rw [recsN_cons]
    split
    · exact recsN_ok ts _ acc h hl
    · exact ⟨by simp, by simp⟩
    · rename_i a b fs hr
      split
      · exact ⟨by simp, by simp⟩
      · refine recsN_ok ts _ _ (fun x hx => ?_) (by simp; omega)
        rcases List.mem_append.1 hx with hx | hx
        · exact h x hx
        · simp only [List.mem_singleton] at hx
          subst hx
          obtain ⟨h1, h2, h3⟩ := lineN_ok hr
          exact ⟨by show (0 : Int) ≤ (a : Int); omega, by show (a : Int) ≤ (b : Int); omega, by show (b : Int) ≤ 1114111; omega, h3⟩
theorem fileN_ok (s : List UInt8) : (∀ x ∈ (fileN s).1, recOk x) ∧ (fileN s).1.length ≤ 300 := recsN_ok _ _ _ (by simp) (by simp)
end Go.Vir


namespace Go.Vir
open Go Go.Lib

def saysB (ss : List (List UInt8)) (k : Nat) (x : RecV) : Option Int := x.fs[k]?.bind fun s => valB s ss 0
def rgOf (x : RecV) (v : Int) : Rg := { f := x.f, t := x.t, v := v }
def readsB (ss : List (List UInt8)) (k : Nat) (loose : Bool) : List RecV → List Rg → List Rg ⊕ (Int × Int)
  | [], out => .inl out
  | x :: l, out => match saysB ss k x with
    | none => if loose then readsB ss k loose l out else .inr (x.line, 40)
    | some v => if out.any (lapR (rgOf x v)) then .inr (x.line, 30) else readsB ss k loose l (out ++ [rgOf x v])
theorem readsB_cons (ss : List (List UInt8)) (k : Nat) (loose : Bool) (x : RecV) (l : List RecV) (out : List Rg) : readsB ss k loose (x :: l) out = match saysB ss k x with
    | none => if loose then readsB ss k loose l out else .inr (x.line, 40)
    | some v => if out.any (lapR (rgOf x v)) then .inr (x.line, 30) else readsB ss k loose l (out ++ [rgOf x v]) := by rw [readsB]
def readB (file : List UInt8) (ss : List (List UInt8)) (k : Int) (loose : Bool) : List Rg × Int × Int :=
  if namesB ss = true ∧ 0 ≤ k ∧ k < 20 then
    if (fileN file).2.2 = 0 then match readsB ss k.toNat loose (fileN file).1 [] with
      | .inl out => (tightR (sortR out), 0, 0)
      | .inr e => ([], e.1, e.2)
    else ([], (fileN file).2.1, (fileN file).2.2)
  else ([], 0, 2)
theorem valB_bound {s : List UInt8} {ss : List (List UInt8)} {v : Int} (h : valB s ss 0 = some v) : 0 ≤ v ∧ v < ss.length := by
  obtain ⟨j, h1, h2⟩ := valB_range s ss 0 v h
  omega
theorem says_bound {ss : List (List UInt8)} {k : Nat} {x : RecV} {v : Int} (h : saysB ss k x = some v) : 0 ≤ v ∧ v < ss.length := by
  unfold saysB at h
  rcases hk : x.fs[k]? with _ | s
  · rw [hk] at h; cases h
  · rw [hk] at h; exact valB_bound h

structure OutOk (n : Nat) (out : List Rg) : Prop where
  one : ∀ x ∈ out, oneR x = true
  apart : apartR out
  val : ∀ x ∈ out, 0 ≤ x.v ∧ x.v < n
theorem OutOk.nil (n : Nat) : OutOk n [] := ⟨by simp, List.Pairwise.nil, by simp⟩
theorem OutOk.snoc {n : Nat} {out : List Rg} {x : Rg} (h : OutOk n out) (h1 : oneR x = true) (h2 : out.any (lapR x) = false) (h3 : 0 ≤ x.v ∧ x.v < n) : OutOk n (out ++ [x]) := by
  refine ⟨fun y hy => ?_, ?_, fun y hy => ?_⟩
  · rcases List.mem_append.1 hy with hy | hy
    · exact h.one y hy
    · simp only [List.mem_singleton] at hy; subst hy; exact h1
  · refine List.pairwise_append.2 ⟨h.apart, by simp, fun y hy z hz => ?_⟩
    simp only [List.mem_singleton] at hz
    subst hz
    have := List.any_eq_false.1 h2 y hy
    simpa using this
  · rcases List.mem_append.1 hy with hy | hy
    · exact h.val y hy
    · simp only [List.mem_singleton] at hy; subst hy; exact h3
theorem rgOf_one {ss : List (List UInt8)} {k : Nat} {x : RecV} {v : Int} (hx : recOk x) (h : saysB ss k x = some v) (hn : ss.length ≤ 32) : oneR (rgOf x v) = true ∧ 0 ≤ (rgOf x v).v ∧ (rgOf x v).v < ss.length := by
  have hb := says_bound h
  exact ⟨oneR_iff.2 ⟨hx.1, hx.2.1, hx.2.2.1, hb.1, by show v ≤ 31; omega⟩, hb⟩
theorem reads_ok {ss : List (List UInt8)} {k : Nat} {loose : Bool} (hn : ss.length ≤ 32) : ∀ {l : List RecV} {out out' : List Rg}, (∀ x ∈ l, recOk x) → OutOk ss.length out → readsB ss k loose l out = .inl out' → OutOk ss.length out' ∧ out'.length ≤ out.length + l.length ∧
    ∀ y, y ∈ out' ↔ y ∈ out ∨ ∃ x ∈ l, ∃ v, saysB ss k x = some v ∧ y = rgOf x v
  | [], out, out', _, ho, h => by
    cases h
    exact ⟨ho, by simp, fun y => by simp⟩
  | x :: l, out, out', hl, ho, h => by
    unfold readsB at h
    have hl2 : ∀ z ∈ l, recOk z := fun z hz => hl z (List.mem_cons_of_mem _ hz)
    rcases hs : saysB ss k x with _ | v
    · rw [hs] at h
      simp only at h
      split at h
      · obtain ⟨h1, h2, h3⟩ := reads_ok hn hl2 ho h
        refine ⟨h1, by simp; omega, fun y => ?_⟩
        rw [h3]
        constructor
        · rintro (h | ⟨z, hz, h⟩)
          · exact .inl h
          · exact .inr ⟨z, List.mem_cons_of_mem _ hz, h⟩
        · rintro (h | ⟨z, hz, v, h4, h5⟩)
          · exact .inl h
          · rcases List.mem_cons.1 hz with e | hz
            · subst e; rw [hs] at h4; cases h4
            · exact .inr ⟨z, hz, v, h4, h5⟩
      · cases h
    · rw [hs] at h
      simp only at h
      split at h
      · cases h
      · rename_i hlap
        obtain ⟨o1, o2⟩ := rgOf_one (hl x (List.mem_cons_self ..)) hs hn
        obtain ⟨h1, h2, h3⟩ := reads_ok hn hl2 (ho.snoc o1 (by simpa using hlap) o2) h
        refine ⟨h1, by simp at h2 ⊢; omega, fun y => ?_⟩
        rw [h3, List.mem_append, List.mem_singleton]
        constructor
        · rintro ((h | h) | ⟨z, hz, h⟩)
          · exact .inl h
          · exact .inr ⟨x, List.mem_cons_self .., v, hs, h⟩
          · exact .inr ⟨z, List.mem_cons_of_mem _ hz, h⟩
        · rintro (h | ⟨z, hz, v', h4, h5⟩)
          · exact .inl (.inl h)
          · rcases List.mem_cons.1 hz with e | hz
            · subst e; rw [hs] at h4; cases h4; exact .inl (.inr h5)
            · exact .inr ⟨z, hz, v', h4, h5⟩
theorem names_len {ss : List (List UInt8)} (h : namesB ss = true) : 1 ≤ ss.length ∧ ss.length ≤ 32 ∧ ss.Nodup := by
  unfold namesB at h
  simp only [Bool.and_eq_true, decide_eq_true_eq] at h
  exact ⟨h.1.1.1, h.1.1.2, h.1.2⟩
theorem read_ok {file : List UInt8} {ss : List (List UInt8)} {k : Int} {loose : Bool} (h : (readB file ss k loose).2.2 = 0) :
    namesB ss = true ∧ (0 ≤ k ∧ k < 20) ∧ (fileN file).2.2 = 0 ∧ ∃ out, readsB ss k.toNat loose (fileN file).1 [] = .inl out ∧ (readB file ss k loose) = (tightR (sortR out), 0, 0) ∧ OutOk ss.length out ∧ out.length ≤ 300 ∧
      ∀ y, y ∈ out ↔ ∃ x ∈ (fileN file).1, ∃ v, saysB ss k.toNat x = some v ∧ y = rgOf x v := by
  unfold readB at h ⊢
  split at h
  · rename_i hc
    split at h
    · rename_i hf
      rcases hr : readsB ss k.toNat loose (fileN file).1 [] with out | e
      · obtain ⟨h1, h2, h3⟩ := reads_ok (names_len hc.1).2.1 (fileN_ok file).1 (OutOk.nil _) hr
        refine ⟨hc.1, hc.2, hf, out, rfl, by rw [if_pos hc, if_pos hf], h1, by have := (fileN_ok file).2; simp at h2; omega, fun y => by rw [h3]; simp⟩
      · rw [hr] at h
        have h0 : e.2 = 0 := h
        have : ∀ {l : List RecV} {out : List Rg} {e : Int × Int}, readsB ss k.toNat loose l out = .inr e → e.2 ≠ 0 := by
          intro l
          induction l with
          | nil => intro out e h; cases h
          | cons x l ih =>
            intro out e h
            unfold readsB at h
            split at h
            · split at h
              · exact ih h
              · cases h; simp
            · split at h
              · cases h; simp
              · exact ih h
        exact absurd h0 (this hr)
    · rename_i hf; exact absurd h hf
  · cases h
theorem read_bad {file : List UInt8} {ss : List (List UInt8)} {k : Int} {loose : Bool} (h : (readB file ss k loose).2.2 ≠ 0) : (readB file ss k loose).1 = [] := by
  unfold readB at h ⊢
  split
  · rename_i hc
    rw [if_pos hc] at h
    split
    · rename_i hf
      rw [if_pos hf] at h
      split
      · rename_i hr; rw [hr] at h; exact absurd rfl h
      · rfl
    · rfl
  · rfl
theorem read_map {file : List UInt8} {ss : List (List UInt8)} {k : Int} {loose : Bool} (h : (readB file ss k loose).2.2 = 0) :
    riseR (-1) (readB file ss k loose).1 = true ∧ (readB file ss k loose).1.length ≤ 300 ∧ (∀ x ∈ (readB file ss k loose).1, 0 ≤ x.v ∧ x.v < ss.length) ∧
    ∀ r v, findR (readB file ss k loose).1 r = some v ↔ ∃ x ∈ (fileN file).1, saysB ss k.toNat x = some v ∧ x.f ≤ r ∧ r ≤ x.t := by
  obtain ⟨hn, hk, hf, out, hr, he, ho, hl, hm⟩ := read_ok h
  rw [he]
  simp only
  have hs := sort_rise out ho.apart ho.one
  obtain ⟨h1, h2, h3⟩ := tight_rise hs
  have hlen := sort_len out
  have hfind : ∀ r v, findR (tightR (sortR out)) r = some v ↔ ∃ x ∈ (fileN file).1, saysB ss k.toNat x = some v ∧ x.f ≤ r ∧ r ≤ x.t := fun r v => by
    rw [h3, sort_find ho.apart ho.one]
    constructor
    · rintro ⟨y, hy, a, b, rfl⟩
      obtain ⟨x, hx, v, hv, rfl⟩ := (hm y).1 hy
      exact ⟨x, hx, hv, a, b⟩
    · rintro ⟨x, hx, hv, a, b⟩
      exact ⟨rgOf x v, (hm _).2 ⟨x, hx, v, hv, rfl⟩, a, b, rfl⟩
  refine ⟨h1, by omega, fun x hx => ?_, hfind⟩
  have hox := oneR_iff.1 (rise_one h1 x hx).1
  have hx2 : findR (tightR (sortR out)) x.f = some x.v := (find_rise h1).2 ⟨x, hx, by omega, by omega, rfl⟩
  obtain ⟨y, _, hv, _⟩ := (hfind _ _).1 hx2
  exact says_bound hv

theorem recsN_line : ∀ (ts : List (List UInt8)) (k : Nat) (acc : List RecV), (∀ x ∈ acc, 0 < x.line) → ∀ x ∈ (recsN ts k acc).1, 0 < x.line
  | [], _, acc, h => h
  | t :: ts, k, acc, h => by
    rw [recsN_cons]
    split
    · exact recsN_line ts _ acc h
    · simp
    · split
      · simp
      · refine recsN_line ts _ _ (fun x hx => ?_)
        rcases List.mem_append.1 hx with hx | hx
        · exact h x hx
        · simp only [List.mem_singleton] at hx
          subst hx
          show (0 : Int) < (k : Int) + 1
          omega
theorem fileN_line (s : List UInt8) : ∀ x ∈ (fileN s).1, 0 < x.line := recsN_line _ _ _ (by simp)
theorem lineN_why {s : List UInt8} {w : Int} (h : lineN s = .bad w) : w = 21 ∨ w = 22 ∨ w = 23 := by
  unfold lineN at h
  split at h
  · cases h
  · split at h
    · cases h; exact .inl rfl
    · split at h
      · cases h; exact .inr (.inl rfl)
      · split at h
        · cases h; exact .inr (.inr rfl)
        · cases h
end Go.Vir


namespace Go.Vir
open Go

def widNm : List (List UInt8) := [[78], [65], [72], [87], [70], [78, 97], [90]]
def makeW (s : List UInt8) (wd : Bool) : TrV × Bool × Int × Int :=
  if (readB s widNm 0 false).2.2 = 0 then (buildT (readB s widNm 0 false).1, wd, 0, 0) else ({ ix := [], bl := [] }, false, (readB s widNm 0 false).2.1, (readB s widNm 0 false).2.2)

theorem build_rightW {l : List Rg} (h : ∀ x ∈ l, 0 ≤ x.v ∧ x.v ≤ 6) : rightW (buildT l) = true := by
  have hr := build_right (l := l) (fun x hx => ⟨(h x hx).1, by have := (h x hx).2; omega⟩)
  unfold rightW
  rw [hr, Bool.true_and]
  simp only [List.all_eq_true, decide_eq_true_eq]
  intro b hb v hv
  obtain ⟨i, rfl⟩ := (rows_inv l 4352).mem b hb
  unfold blockT at hv
  obtain ⟨j, _, rfl⟩ := List.mem_map.1 hv
  unfold sayR
  rcases say_acc l ((i * 256 + j : Nat) : Int) 0 with e | ⟨x, hx, e, _⟩
  · rw [e]; decide
  · rw [e]; exact (h x hx).2
theorem widT_build (l : List Rg) (wd : Bool) {r : Nat} (hr : r ≤ 1114111) : widT (buildT l) wd (r : Int) = widV wd (sayR l (r : Int)) := by
  unfold widT
  rw [Int.toNat_natCast, build_at l hr]

def shW : List Rg := [{ f := 768, t := 879, v := 6 }, { f := 19968, t := 40959, v := 3 }]
def shT1 : List UInt8 := [52, 69, 48, 48, 46, 46, 57, 70, 70, 70, 59, 87, 10, 48, 51, 48, 48, 46, 46, 48, 51, 54, 70, 59, 90]
def shT2 : List UInt8 := [48, 48, 52, 49, 59, 88]
theorem sw_right : rightW (buildT shW) = true := build_rightW (by decide)
theorem sw_read1 : readB shT1 widNm 0 false = (shW, 0, 0) := by decide +kernel
theorem sw_read2 : readB shT2 widNm 0 false = ([], 1, 40) := by decide +kernel
theorem sw_make1 : makeW shT1 false = (buildT shW, false, 0, 0) := by unfold makeW; rw [sw_read1]; exact if_pos rfl
theorem sw_make2 : makeW shT2 true = ({ ix := [], bl := [] }, false, 1, 40) := by unfold makeW; rw [sw_read2]; exact if_neg (by decide)
theorem chk_ok {t : TrV} {l : List (List UInt8)} (h : rightW t = true) (hl : l.all (fun c => (scalarsU c).isSome) = true) : chkW t l = 0 := by unfold chkW; rw [if_pos h, if_pos hl]
theorem w_a : widT (buildT shW) false 97 = 1 := (widT_build shW false (r := 97) (by decide)).trans (by decide)
theorem w_b : widT (buildT shW) false 98 = 1 := (widT_build shW false (r := 98) (by decide)).trans (by decide)
theorem w_m : widT (buildT shW) false 769 = 0 := (widT_build shW false (r := 769) (by decide)).trans (by decide)
theorem w_z : widT (buildT shW) false 20013 = 2 := (widT_build shW false (r := 20013) (by decide)).trans (by decide)
theorem u_a : scalarsU [97] = some [97] := by decide +kernel
theorem u_b : scalarsU [98] = some [98] := by decide +kernel
theorem u_m : scalarsU [204, 129] = some [769] := by decide +kernel
theorem u_am : scalarsU [97, 204, 129] = some [97, 769] := by decide +kernel
theorem u_z : scalarsU [228, 184, 173] = some [20013] := by decide +kernel
theorem u_x : scalarsU [255] = none := by decide +kernel
theorem clus_one {t : TrV} {wd : Bool} {c : List UInt8} {r : Int} (h : scalarsU c = some [r]) : clusS t wd c = widT t wd r := by
  unfold clusS
  rw [h]
  have h1 := widT_ends t wd r
  have e : maxW t wd [r] = widT t wd r := by rw [maxW_cons]; simp [maxW]; omega
  show clusW t wd [r] = _
  unfold clusW
  rw [if_neg (by simp [emoW]), e]
theorem clu_ok {t : TrV} {wd : Bool} {c : List UInt8} (h : rightW t = true) (hc : (scalarsU c).isSome = true) : cluW t wd c = (clusS t wd c, 0) := by
  unfold cluW colW
  rw [if_pos (chk_ok h (by simp [hc]))]
  show (sumW t wd [c], (0 : Int)) = _
  rw [sumW_cons]; simp [sumW]
theorem sw_c1 : cluW (buildT shW) false [228, 184, 173] = (2, 0) := by rw [clu_ok sw_right (by rw [u_z]; rfl), clus_one u_z, w_z]
theorem sw_c2 : cluW (buildT shW) false [97, 204, 129] = (1, 0) := by
  rw [clu_ok sw_right (by rw [u_am]; rfl)]
  unfold clusS
  rw [u_am]
  show (clusW (buildT shW) false [97, 769], (0 : Int)) = _
  unfold clusW
  rw [if_neg (by simp [emoW]), maxW_cons, maxW_cons, w_a, w_m]
  rfl
theorem sw_c3 : cluW (buildT shW) false [255] = (0, 11) := by
  have h : chkW (buildT shW) [[255]] = 11 := by unfold chkW; rw [if_pos sw_right, if_neg (by simp [u_x])]
  unfold cluW colW
  rw [h]; rfl
theorem sw_o : ofW (buildT shW) false 769 = (0, 0) := by unfold ofW; rw [if_pos sw_right, if_pos (by decide), w_m]
theorem fit_four {t : TrV} {c1 c2 c3 c4 : List UInt8} (h1 : clusS t false c1 = 1) (h2 : clusS t false c2 = 2) (h3 : clusS t false c3 = 0) (h4 : clusS t false c4 = 1) : fitW t false 3 [c1, c2, c3, c4] 0 = 3 := by
  simp [fitW, h1, h2, h3, h4]
theorem all_four {c1 c2 c3 c4 : List UInt8} (h1 : (scalarsU c1).isSome = true) (h2 : (scalarsU c2).isSome = true) (h3 : (scalarsU c3).isSome = true) (h4 : (scalarsU c4).isSome = true) : [c1, c2, c3, c4].all (fun c => (scalarsU c).isSome) = true := by
  simp [h1, h2, h3, h4]
theorem sw_f : fitsW (buildT shW) false [[97], [228, 184, 173], [204, 129], [98]] 3 = (3, 0) := by
  have h := chk_ok sw_right (all_four (c1 := [97]) (c2 := [228, 184, 173]) (c3 := [204, 129]) (c4 := [98]) (by rw [u_a]; rfl) (by rw [u_z]; rfl) (by rw [u_m]; rfl) (by rw [u_b]; rfl))
  have h2 := fit_four (t := buildT shW) ((clus_one u_a).trans w_a) ((clus_one u_z).trans w_z) ((clus_one u_m).trans w_m) ((clus_one u_b).trans w_b)
  unfold fitsW
  rw [if_pos h, h2]
  rfl

end Go.Vir


namespace Go.Vir
open Go Go.RowKit Go.Proofs Go.Shelf
attribute [local go_sem] Oper.semAt_some

section
variable {w w' : World} {B n : Nat} {A : Option Addr}
theorem Ints.low {zs : List Int} (h : Ints w B A n zs) (hl : ∀ k, k < B → w'.heap[k]? = w.heap[k]?) : Ints w' B A n zs :=
  ⟨h.len, fun hn => let ⟨b, o, e, hlt, hc⟩ := h.at_ hn; ⟨b, o, e, hlt, fun j hj => (World.cell?_of_block (hl b hlt)).trans (hc j hj)⟩⟩
theorem Prs.low {ps : List (Int × Int)} (h : Prs w B A n ps) (hl : ∀ k, k < B → w'.heap[k]? = w.heap[k]?) : Prs w' B A n ps :=
  ⟨h.len, fun hn => let ⟨b, o, e, hlt, hc⟩ := h.at_ hn; ⟨b, o, e, hlt, fun j hj => ⟨(World.cell?_of_block (hl b hlt)).trans (hc j hj).1, (World.cell?_of_block (hl b hlt)).trans (hc j hj).2⟩⟩⟩
end

end Go.Vir


namespace Go.Vir
open Go Go.RowKit Go.Proofs Go.Shelf

set_option maxRecDepth 100000 in
theorem trim_blanks (s : List UInt8) (w : World) (hs : s.length ≤ 1000000) :
    Calls Tryz.prog 181 #[.string ⟨s.toArray⟩, .string ⟨#[32, 9, 13]⟩] w fun e w' => e = .returned (.string ⟨(trimL s).toArray⟩) ∧ Below w.heap.size w w' := by
  rcases Nat.eq_zero_or_pos s.length with h0 | h0
  · have : s = [] := List.eq_nil_of_length_eq_zero h0
    subst this
    exact (Any.strings_Trim_empty Tryz.lays160 ⟨#[]⟩ ⟨#[32, 9, 13]⟩ w (.inl rfl)).mono fun e w' ⟨h1, h2⟩ => ⟨h1, h2 ▸ Below.refl _ _⟩
  · have h := Any.strings_Trim_set Tryz.lays160 (fun _ => by kernel_rfl) (by kernel_rfl) ⟨s.toArray⟩ ⟨#[32, 9, 13]⟩ w (by decide) (by show 0 < s.toArray.size; simpa using h0) (by show s.toArray.size ≤ _; simp; omega) (by decide) (fun j b hj => by
      have : b ∈ ([32, 9, 13] : List UInt8) := List.mem_of_getElem? hj
      simp at this
      rcases this with rfl | rfl | rfl <;> decide)
    refine h.mono ?_
    rintro e w' ⟨rfl, q, rfl⟩
    exact ⟨rfl, (((Below.refl _ _).alloc (Nat.le_refl _) _).alloc (by simp) _).trans (below_drewN _ _ _)⟩
end Go.Vir


namespace Go.Vir
open Go Go.RowKit Go.Proofs Go.Shelf
attribute [local go_sem] Oper.semAt_some

def Fresh (B0 : Nat) (A : Option Addr) (n : Nat) : Prop := 0 < n → ∃ b o, A = some ⟨b, o, none⟩ ∧ B0 ≤ b
theorem Fresh.less {B0 B1 : Nat} {A : Option Addr} {n : Nat} (h : Fresh B1 A n) (hB : B0 ≤ B1) : Fresh B0 A n := fun hn => (h hn).imp fun _ ⟨o, e, hb⟩ => ⟨o, e, Nat.le_trans hB hb⟩
theorem Prs.keep {w w' : World} {B B' n F : Nat} {A : Option Addr} {ps : List (Int × Int)} (h : Prs w B A n ps) (hf : Fresh F A n) (hk : ∀ k, F ≤ k → k < B → w'.heap[k]? = w.heap[k]?) (hB : B ≤ B') : Prs w' B' A n ps :=
  ⟨h.len, fun hn => by
    obtain ⟨b, o, e, hlt, hc⟩ := h.at_ hn
    obtain ⟨b', o', e', hF⟩ := hf hn
    rw [e] at e'
    obtain ⟨rfl, rfl⟩ : b = b' ∧ o = o' := by simpa using e'
    exact ⟨b, o, e, by omega, fun j hj => ⟨(World.cell?_of_block (a := ⟨b, o + j * 2, none⟩) (hk b hF hlt)).trans (hc j hj).1, (World.cell?_of_block (a := ⟨b, o + j * 2 + 1, none⟩) (hk b hF hlt)).trans (hc j hj).2⟩⟩⟩

end Go.Vir


namespace Go.Vir
open Go Go.RowKit Go.Proofs Go.Shelf
attribute [local go_sem] Oper.semAt_some

def Off (F : Nat) (g : Option Nat) (A : Option Addr) (n : Nat) : Prop := 0 < n → ∃ b o, A = some ⟨b, o, none⟩ ∧ F ≤ b ∧ some b ≠ g
section
variable {w w' : World} {B B' F : Nat} {g : Option Nat}

theorem Prs.kept {A : Option Addr} {n : Nat} {ps : List (Int × Int)} (h : Prs w B A n ps) (hf : Off F g A n) (hk : ∀ k, F ≤ k → k < B → some k ≠ g → w'.heap[k]? = w.heap[k]?) (hB : B ≤ B') : Prs w' B' A n ps :=
  ⟨h.len, fun hn => by
    obtain ⟨b, o, e, hlt, hc⟩ := h.at_ hn
    obtain ⟨b', o', e', hF, hg⟩ := hf hn
    rw [e] at e'
    obtain ⟨rfl, rfl⟩ : b = b' ∧ o = o' := by simpa using e'
    exact ⟨b, o, e, by omega, fun j hj => ⟨(World.cell?_of_block (a := ⟨b, o + j * 2, none⟩) (hk b hF hlt hg)).trans (hc j hj).1, (World.cell?_of_block (a := ⟨b, o + j * 2 + 1, none⟩) (hk b hF hlt hg)).trans (hc j hj).2⟩⟩⟩
theorem Off.move {A : Option Addr} {n : Nat} {ps : List (Int × Int)} (h : Off F g A n) (hp : Prs w B A n ps) {g' : Option Nat} (hg : g' = g ∨ ∃ k, B ≤ k ∧ g' = some k) : Off F g' A n := fun hn => by
  obtain ⟨b, o, e, hF, hne⟩ := h hn
  obtain ⟨b', o', e', hlt, _⟩ := hp.at_ hn
  rw [e] at e'
  obtain ⟨rfl, rfl⟩ : b = b' ∧ o = o' := by simpa using e'
  refine ⟨b, o, e, hF, ?_⟩
  rcases hg with rfl | ⟨k, hk, rfl⟩
  · exact hne
  · simp; omega
end

theorem step_append_where {P : Program} {ops : Array Oper} {o : Oper} {a : Act} {w : World} {K : Act → World → Prop} {Q : Exit → Act → World → Prop} {E : Prop}
    (hg : o.guard = none) (s x : Operand) (t : TypeId) (hop : o.op = Op.call { callee := Callee.builtin Builtin.append, args := #[s, x], argTypes := #[t, t] })
    (base : Nat) (e : TypeId) (i : TypeInfo) (z : Value) (size bytes : Nat) (h1 : P.underlying t = some (.slice e)) (h2 : P.info? e = some i) (h3 : i.zero = some z) (h4 : i.size = size) (h5 : i.bytes = bytes) (h6 : z.cells.size = size) (h7 : 0 < size)
    (v : Value) (n : Nat) (xs : List Value) (hs : a.eval s = v) (hown : w.ownsRow base e size v n xs)
    (ad : Addr) (m c : Nat) (news : List Value) (hx : a.eval x = .slice (some ad) m c) (hn : news.length = m * size) (hc : ∀ j u, news[j]? = some u → w.cell? (ad.add j) = some u) (h1c : ∀ u ∈ news, u.oneCell' = true)
    (b1 : n + m ≤ maxLen) (b2 : (n + m) * bytes ≤ 140737488355328) (hbase : base ≤ w.heap.size)
    (hK : ∀ v' w', w'.ownsRow base e size v' (n + m) (xs ++ news) → w.grownBy w' v.ownBlock → (v'.ownBlock = v.ownBlock ∨ v'.ownBlock = some w.heap.size) → K (a.put o.dst v') w') :
    if Region.wanted o (yielded ops a.tmps) = true then Oper.wp P o a w K Q else E := by
  have hw : Region.wanted o (yielded ops a.tmps) = true := by simp [Region.wanted, hg]
  rw [if_pos hw]
  obtain ⟨v', w', hrun, r1, r2, _, r3⟩ := run_append_own_at (P := P) w base t o.type e i z size bytes h1 h2 h3 h4 h5 h6 h7 v n xs hown ad m c news hn hc h1c b1 b2 hbase
  unfold Oper.wp
  simp [execOp, hop, resolve, invoke, builtin, hs, hx, hrun, Result.andThen]
  exact hK v' w' r1 r2 r3
end Go.Vir

