/- Joined texts: TrJ, WdG, WdH, WdI, Trn, Pev, PrA, Fd1, Fd2, Flt. -/
import Derived.Test.YtjbeaheenfcgdaaGreatDoorDg
import Derived.Test.YtjbeaheenfcgdaaGreatDoorDe
import Derived.Test.YtjbeaheenfcgdaaGreatDoorDd
import Derived.Test.YtjbeaheenfcgdaaGreatDoorDf
import Derived.Test.YtjbeaheenfcgdaaGreatDoorDb
import Derived.Test.YtjbeaheenfcgdaaGreatDoorDa
import Derived.Deep.RegionHeld3
import Derived.Deep.DeepCutAuto
import Derived.Laws.Cover3
namespace Go.Vir
open Go Go.RowKit Go.Proofs
attribute [local go_sem] Oper.semAt_some

structure PuS (F b m : Nat) (T : TrV) (Vi Vb : Value) (xs : List Value) (W : World) : Prop where
  bd : W.heap[b]? = some (.cells #[Vi, Vb] 40 (0, 0))
  zr : W.heap[m]? = some (.cells #[.slice none 0 0, .slice none 0 0] 40 (0, 0))
  st : TrS F (fun k => k = b ∨ k = m) W T Vi Vb xs
  ne : b ≠ m
def PutP (F : Nat) (T : TrV) (Vi Vb : Value) (w : World) (e : Ending) (w' : World) : Prop := ∃ Vi' Vb' xs', e = .returned (.agg #[Vi', Vb']) ∧ TrS F (fun _ => False) w' T Vi' Vb' xs' ∧ BdF w.heap.size w.heap.size Vi Vb w w'

section
variable {F b m : Nat} {X : Nat → Prop} {T : TrV} {Vi Vb Vi2 Vb2 : Value} {xs : List Value} {W U V V3 V5 V6 : World}
theorem TrS.with (h : TrS F (fun _ => False) W T Vi Vb xs) (hb : Below W.heap.size W U) (hX : ∀ k, X k → W.heap.size ≤ k ∧ k < U.heap.size) : TrS F X U T Vi Vb xs := by
  have h2 := h.below hb
  refine ⟨h2.ri, h2.rb, ?_, h2.ne, fun k e hx => ?_, fun k e hx => ?_, h2.hF, fun k hx => (hX k hx).2⟩
  · refine ⟨h.iv.1, fun j hj => ?_⟩
    obtain ⟨g, c, e, hc, hF, hg, hd, hi⟩ := h.iv.2 j hj
    refine ⟨g, c, e, hc, hF, by have := hb.size; omega, ?_, (hi.below hb).more hb.size⟩
    rintro (hx | hx)
    · have := (hX g hx).1; omega
    · exact hd (.inr hx)
  · have := (lt_own h.ri k e).2; have := (hX k hx).1; omega
  · have := (lt_own h.rb k e).2; have := (hX k hx).1; omega
theorem TrS.less (h : TrS F X W T Vi Vb xs) : TrS F (fun _ => False) W T Vi Vb xs := by
  refine ⟨h.ri, h.rb, h.iv.keep (fun _ _ _ _ => rfl) (Nat.le_refl _) (fun k _ _ hd hx => ?_), h.ne, fun _ _ => id, fun _ _ => id, h.hF, fun _ hx => hx.elim⟩
  rcases hx with hx | hx
  · exact hx
  · exact hd (.inr hx)
theorem PuS.below (h : PuS F b m T Vi Vb xs W) (hb : Below W.heap.size W U) : PuS F b m T Vi Vb xs U :=
  ⟨(hb.block b (Array.getElem?_eq_some_iff.1 h.bd).1).trans h.bd, (hb.block m (Array.getElem?_eq_some_iff.1 h.zr).1).trans h.zr, h.st.below hb, h.ne⟩
theorem PuS.fin {nn : Int} (hS : PuS F b m T Vi Vb xs V) (o : Obj) (hr : V6.ownsRow F 3 1 Vi2 (T.ix.length + 1) (T.ix.map intC ++ [intC nn])) (hg : (V.alloc o).grownBy V6 Vi.ownBlock) (hat : Vi2.ownBlock = Vi.ownBlock ∨ Vi2.ownBlock = some (V.alloc o).heap.size) :
    V6.cell? ⟨b, 0, none⟩ = some Vi ∧ V6.frozen? ⟨b, 0, none⟩ = false ∧ PuS F b m { ix := T.ix ++ [nn], bl := T.bl } Vi2 Vb xs (V6.setCell ⟨b, 0, none⟩ Vi2) ∧ BdF b m Vi Vb V (V6.setCell ⟨b, 0, none⟩ Vi2) ∧ (∀ q, q < V.heap.size → Vi.ownBlock ≠ some q → Vi2.ownBlock ≠ some q) ∧
      V6.heap[b]? = some (.cells #[Vi, Vb] 40 (0, 0)) ∧ V6.heap[m]? = some (.cells #[.slice none 0 0, .slice none 0 0] 40 (0, 0)) := by
  have hbV : Below V.heap.size V (V.alloc o) := (Below.refl _ V).alloc (Nat.le_refl _) o
  have hS2 := hS.below hbV
  have hbl : b < (V.alloc o).heap.size := (Array.getElem?_eq_some_iff.1 hS2.bd).1
  have hml : m < (V.alloc o).heap.size := (Array.getElem?_eq_some_iff.1 hS2.zr).1
  have h6 : V6.heap[b]? = some (.cells #[Vi, Vb] 40 (0, 0)) := (hg.block b hbl (fun e => hS.st.xi b e.symm (.inl rfl))).trans hS2.bd
  have hst := hS2.st.addIx hr hg (hat.imp id fun e => ⟨_, Nat.le_refl _, e⟩)
  have hne : ∀ k, k ≠ b → (V6.setCell ⟨b, 0, none⟩ Vi2).heap[k]? = V6.heap[k]? := fun k hk => Below.heap_setCell _ _ _ _ hk
  refine ⟨cell_blk h6 0, frozen_blk h6 0, ⟨by simpa using setCell_blk h6 0 Vi2, (hne m hS.ne.symm).trans ((hg.block m hml (fun e => hS.st.xi m e.symm (.inr rfl))).trans hS2.zr), hst.keep (by simp [World.setCell]) (fun k _ hx => hne k (fun e => hx (.inl e))), hS.ne⟩, ⟨hg.os, hg.tape, hg.output, by have := hg.size; simp [World.setCell] at this ⊢; omega, fun k hk h1 h2 h3 h4 => (hne k h1).trans ((hg.block k (Nat.lt_of_lt_of_le hk hbV.size) (fun e => h3 e.symm)).trans (hbV.block k hk))⟩, fun q hq h e => ?_, h6, (hg.block m hml (fun e => hS.st.xi m e.symm (.inr rfl))).trans hS2.zr⟩
  rcases hat with e2 | e2
  · exact h (e2 ▸ e)
  · rw [e2] at e; have := Option.some.inj e; simp at this; omega
theorem PuS.mid {x : List Int} {g c : Nat} (hS : PuS F b m T Vi Vb xs U) (hx : x.length = 256) (h3 : Below U.heap.size U V3) (hg1 : U.heap.size ≤ g) (hg2 : g < V3.heap.size) (hc : 256 ≤ c) (hgi : Ints V3 V3.heap.size (some ⟨g, 0, none⟩) 256 x)
    (o : Obj) (hr : V5.ownsRow F 37 1 Vb2 (T.bl.length + 1) (xs ++ [.slice (some ⟨g, 0, none⟩) 256 c])) (hg : (V3.alloc o).grownBy V5 Vb.ownBlock) (hat : Vb2.ownBlock = Vb.ownBlock ∨ Vb2.ownBlock = some (V3.alloc o).heap.size) :
    PuS F b m { ix := T.ix, bl := T.bl ++ [x] } Vi Vb2 (xs ++ [.slice (some ⟨g, 0, none⟩) 256 c]) (V5.setCell ⟨b, 1, none⟩ Vb2) ∧ BdF b m Vi Vb U (V5.setCell ⟨b, 1, none⟩ Vb2) ∧ (∀ q, q < U.heap.size → Vb.ownBlock ≠ some q → Vb2.ownBlock ≠ some q) := by
  have hbV : Below V3.heap.size V3 (V3.alloc o) := (Below.refl _ V3).alloc (Nat.le_refl _) o
  have hb2 : Below U.heap.size U (V3.alloc o) := h3.trans (hbV.mono h3.size)
  have st := hS.st
  have st2 := st.below hb2
  have hbl : b < U.heap.size := (Array.getElem?_eq_some_iff.1 hS.bd).1
  have hml : m < U.heap.size := (Array.getElem?_eq_some_iff.1 hS.zr).1
  have hs4 := hb2.size
  have h5 : V5.heap[b]? = some (.cells #[Vi, Vb] 40 (0, 0)) := (hg.block b (by omega) (fun e => st.xb b e.symm (.inl rfl))).trans ((hb2.block b hbl).trans hS.bd)
  have hnk : ∀ k, k ≠ b → (V5.setCell ⟨b, 1, none⟩ Vb2).heap[k]? = V5.heap[k]? := fun k hk => Below.heap_setCell _ _ _ _ hk
  have hi4 : Ints (V3.alloc o) (V3.alloc o).heap.size (some ⟨g, 0, none⟩) 256 x := (hgi.below hbV).more hbV.size
  rw [← hx] at hi4 hr hc ⊢
  have hst := st2.addBl (g := g) (c := c) (x := x) (by have := st.hF; omega) (by have := hbV.size; omega) (by rintro (e | e) <;> omega) (fun e => by have := (lt_own st.ri g e).2; omega) (fun e => by have := (lt_own st.rb g e).2; omega) hc hi4 hr hg (hat.imp id fun e => ⟨_, Nat.le_refl _, e⟩)
  refine ⟨⟨by simpa using setCell_blk h5 1 Vb2, (hnk m hS.ne.symm).trans ((hg.block m (by omega) (fun e => st.xb m e.symm (.inr rfl))).trans ((hb2.block m hml).trans hS.zr)), hst.keep (by simp [World.setCell]) (fun k _ hx => hnk k (fun e => hx (.inl e))), hS.ne⟩,
    ⟨hg.os.trans hb2.os, hg.tape.trans hb2.tape, hg.output.trans hb2.output, by have := hg.size; simp only [World.setCell, Array.size_modify] at this ⊢; omega, fun k hk h1 h2 h3 h4 => (hnk k h1).trans ((hg.block k (by omega) (fun e => h4 e.symm)).trans (hb2.block k hk))⟩, fun q hq h e => ?_⟩
  rcases hat with e2 | e2
  · exact h (e2 ▸ e)
  · rw [e2] at e; have := Option.some.inj e; omega
theorem PuS.out {w : World} (hS : PuS F b m T Vi2 Vb2 xs V) (hF : BdF b m Vi Vb w V) (hb : w.heap.size ≤ b) (hm : w.heap.size ≤ m) :
    PutP F T Vi Vb w (.returned (.agg #[Vi2, Vb2])) ((V.setCell ⟨m, 0, none⟩ Vi2).setCell ⟨m, 1, none⟩ Vb2) := by
  have hk : ∀ k, k ≠ m → ((V.setCell ⟨m, 0, none⟩ Vi2).setCell ⟨m, 1, none⟩ Vb2).heap[k]? = V.heap[k]? := fun k hk => (Below.heap_setCell _ _ _ _ hk).trans (Below.heap_setCell _ _ _ _ hk)
  refine ⟨_, _, xs, rfl, (hS.st.keep (by simp [World.setCell]) (fun k _ hx => hk k (fun e => hx (.inr e)))).less, hF.os, hF.tape, hF.output, by have := hF.size; simp [World.setCell]; omega, fun k hkl _ _ h3 h4 => (hk k (by omega)).trans (hF.blk k hkl (by omega) (by omega) h3 h4)⟩
theorem PuS.res (hS : PuS F b m T Vi2 Vb2 xs V) : ((V.setCell ⟨m, 0, none⟩ Vi2).setCell ⟨m, 1, none⟩ Vb2).heap[m]? = some (.cells #[Vi2, Vb2] 40 (0, 0)) := by
  simp [World.setCell, Array.getElem?_modify, hS.zr]
end

theorem results_cell2 {f : Func} {ts : Array Value} {W : World} {a : Nat} {u v : Value} {s : Tmp} (hf : f.results = #[.cell s 40]) (hs : ts[s]? = some (.pointer (some ⟨a, 0, none⟩))) (h0 : W.cell? ⟨a, 0, none⟩ = some u) (h1 : W.cell? ⟨a, 1, none⟩ = some v) :
    (results f ts).run Tryz.prog W = .ok (.agg #[u, v]) W := by
  simp [results, hf, hs, go_sem, h0, h1]
theorem idxOf_first {l : List (List Int)} {k : Nat} (h : k < l.length) (hn : ∀ (j : Nat) (_ : j < k) (hj : j < l.length), ¬ l[j] = l[k]) : l.idxOf l[k] = k := by
  have h1 : l.idxOf l[k] < l.length := List.idxOf_lt_length_of_mem (List.getElem_mem h)
  have h2 : l[l.idxOf l[k]] = l[k] := List.getElem_idxOf h1
  have h3 : l.idxOf l[k] ≤ k := by
    have h4 : l.idxOf l[k] = l.findIdx (· == l[k]) := rfl
    rw [h4]
    have := List.not_of_lt_findIdx (p := (· == l[k])) (xs := l) (i := k)
    rcases Nat.lt_or_ge k (l.findIdx (· == l[k])) with h5 | h5
    · have := this h5; simp at this
    · exact h5
  rcases Nat.lt_or_ge (l.idxOf l[k]) k with h5 | h5
  · exact absurd h2 (hn _ h5 h1)
  · omega
set_option maxRecDepth 100000 in
set_option maxHeartbeats 8000000 in
theorem ref06_put (F : Nat) (T : TrV) (Vi Vb : Value) (xs : List Value) (xa : Addr) (xc : Nat) (x : List Int) (w : World) (hS : TrS F (fun _ => False) w T Vi Vb xs) (hxi : Ints w w.heap.size (some xa) 256 x) (hi : T.ix.length ≤ 100000) (hbl : T.bl.length ≤ 100000) (h256 : ∀ y ∈ T.bl, y.length = 256) (hxd : Vi.ownBlock ≠ some xa.block ∧ Vb.ownBlock ≠ some xa.block) :
    Calls Tryz.prog 102 #[.agg #[Vi, Vb], .slice (some xa) 256 xc] w (PutP F (putT T x) Vi Vb w) := by
  obtain ⟨i0, hi0, hz0, hz1, hz2⟩ := info_parts ints_info
  obtain ⟨j0, hj0, jz0, jz1, jz2⟩ := info_parts zint_info
  obtain ⟨Ai, ni, ci, Ab, nb, cb, hVi, rfl, _, hcb, htri⟩ := hS.tri
  clear hVi
  obtain rfl : T.bl.length = nb := htri.bl.len
  have hxl := hxi.len
  have hput : putT T x = { ix := T.ix ++ [(T.bl.idxOf x : Int)], bl := if x ∈ T.bl then T.bl else T.bl ++ [x] } := rfl
  obtain ⟨b, hb⟩ : ∃ b, b = w.heap.size := ⟨_, rfl⟩
  obtain ⟨W0, hW0⟩ : ∃ W0, W0 = (w.alloc (.cells #[Vi, .slice Ab T.bl.length cb] 40)).alloc (.cells #[.slice none 0 0, .slice none 0 0] 40) := ⟨_, rfl⟩
  have hbw : Below w.heap.size w W0 := by rw [hW0]; go_grown
  have hs0 : W0.heap.size = b + 2 := by rw [hW0, hb]; simp
  have hP : PuS F b (b + 1) T Vi (.slice Ab T.bl.length cb) xs W0 := ⟨by rw [hb]; exact (by rw [hW0]; simp (disch := (first | omega | (simp only [World.size_alloc]; done) | (simp only [World.size_alloc]; omega))) only [heap_laws]), by rw [hb]; exact (by rw [hW0]; simp (disch := (first | omega | (simp only [World.size_alloc]; done) | (simp only [World.size_alloc]; omega))) only [heap_laws]), hS.with hbw (fun k hk => by rcases hk with rfl | rfl <;> omega), by omega⟩
  have htri0 := (htri.below hbw).more hbw.size
  have hxi0 := (hxi.below hbw).more hbw.size
  have HP := Lib.hid hP
  have Htri := Lib.hid htri0
  have Hxi := Lib.hid hxi0
  have Hxi0 := Lib.hid hxi
  have Hxd := Lib.hid hxd
  have Hbw := Lib.hid hbw
  have Hput := Lib.hid hput
  have Hxl := Lib.hid hxl
  have H256 := Lib.hid h256
  have HS0 := Lib.hid hs0
  have Hb := Lib.hid hb
  clear hP htri0 hxi0 hbw hput hxl hS htri hxi h256 hs0 hxd
  go_enter Tryz.func102, Tryz.ntmps102
  go_wp2_with fail
  rw [← hW0, ← hb]
  have Hw := Lib.hid hb
  clear hW0 hb
  go_loopw [5] (fun i wr => ∃ k : Nat, k ≤ T.bl.length ∧ i = .int .i64 (k : Int) ∧ (∀ (j : Nat) (_ : j < k) (h : j < T.bl.length), ¬ T.bl[j] = x) ∧ Below W0.heap.size W0 wr) (fun i _ => T.bl.length - (RowKit.intOf i).toNat)
  case atStart => exact ⟨0, Nat.zero_le _, rfl, fun j h => absurd h (by omega), Below.refl _ _⟩
  case round =>
    obtain ⟨k, hk, rfl, hno, hbr⟩ := hrel
    obtain ⟨wo, hwo⟩ : ∃ wo, wo = wr := ⟨_, rfl⟩
    subst hwo
    have hP := HP.out.below hbr
    have u0 : wo.cell? ⟨b, 0, none⟩ = some Vi := cell_blk hP.bd 0
    have u1 : wo.cell? ⟨b, 1, none⟩ = some (.slice Ab T.bl.length cb) := cell_blk hP.bd 1
    have HP1 := Lib.hid hP
    have HBF : Hid (BdF b (b + 1) Vi (.slice Ab T.bl.length cb) w wo) := Lib.hid (BdF.below (Hbw.out.trans (Below.mono hbr Hbw.out.size)))
    clear hP
    rcases Nat.lt_or_ge k T.bl.length with hlt | hge
    · obtain ⟨bb, bo, rfl, hbb, hbc⟩ := Htri.out.bl.at_ (by omega)
      obtain ⟨A', n', c', g1, g2, _⟩ := hbc k hlt
      have u2 := (cellOf hbr hbb).trans g1
      have hn' : n' = 256 := by rw [← g2.len]; exact H256.out _ (List.getElem_mem hlt)
      subst hn'
      have hq := ref_Ints A' (some xa) 256 c' 256 xc T.bl[k] x wo ((g2.below hbr).more hbr.size) ((Hxi.out.below hbr).more hbr.size) (by omega)
      have Hq := Lib.hid hq
      clear g1 g2 hbc hq
      by_cases he : T.bl[k] = x
      · rw [decide_eq_true he] at Hq
        have hidx : T.bl.idxOf x = k := by
          subst he
          exact idxOf_first hlt hno
        have hmem : x ∈ T.bl := he ▸ List.getElem_mem hlt
        have hput2 : putT T x = { ix := T.ix ++ [(k : Int)], bl := T.bl } := by rw [Hput.out, hidx, if_pos hmem]
        have Hput2 := Lib.hid hput2
        clear he hidx hmem hput2 hno
        go_wp2_with fail
        refine Hq.out.mono ?_
        rintro e w7 ⟨rfl, hb7⟩
        have hP := HP1.out.below hb7
        have HSd := Lib.hid hP
        have HBF2 := Lib.hid (HBF.out.trans (BdF.below hb7) (fun _ _ h => h) (fun _ _ h => h))
        clear hP HP1 HBF u0 u1 u2 hbr hb7
        have e0 : w7.cell? ⟨b, 0, none⟩ = some Vi := cell_blk HSd.out.bd 0
        have hc1 := cell_one_new w7 (.int .i64 (k : Int)) 3
        have hri := HSd.out.st.ri.alloc (.cells #[.int .i64 (k : Int)] 3)
        have hfs := HSd.out.st.hF
        have hri' : (w7.alloc (.cells #[.int .i64 (k : Int)] 3)).ownsRow F 3 1 Vi T.ix.length (T.ix.map intC) := hri
        go_wp2_with (at_builtin; refine wpList_append_at _ rfl _ _ 37 rfl F 3 j0 (.int .i64 0) 1 8 Tryz.underlying37 hj0 jz0 jz1 jz2 rfl (by decide) Vi T.ix.length (T.ix.map intC) rfl hri' ⟨w7.heap.size, 0, none⟩ 1 1 [.int .i64 (k : Int)] rfl rfl hc1 ?qone ?qb1 ?qb2 ?qb3 ?_)
        case qone => first | rfl | (intro u hu; simp at hu; subst hu; rfl)
        case qb1 => simp only [maxLen]; omega
        case qb2 => omega
        case qb3 => first | omega | (simp; omega)
        intro Vi2 V7 hown7 hg7 hat7
        obtain ⟨g7, cap7, rfl⟩ := ownsRow_succ hown7
        obtain ⟨e7, f7, hfin1, hfin2⟩ := HSd.out.fin (nn := (k : Int)) _ hown7 hg7 (by rw [World.size_alloc]; exact hat7)
        have Hf := Lib.hid (And.intro hfin1 hfin2)
        clear hfin1 hfin2 hown7 hg7 hat7
        have hP := Hf.out.1
        have d1 := cell_blk Hf.out.2.2.2.1 1
        have d2 := cell_blk Hf.out.2.2.2.2 0
        have d3 := cell_blk Hf.out.2.2.2.2 1
        have d4 := frozen_blk Hf.out.2.2.2.2 0
        have d5 := frozen_blk Hf.out.2.2.2.2 1
        have Hout := Lib.hid (hP.out (HBF2.out.trans Hf.out.2.1 (fun _ _ h => h) (fun _ _ h => h)) (by have := Hw.out; omega) (by have := Hw.out; omega))
        have Hres := Lib.hid hP.res
        clear hP Hf HBF2
        go_wp2_with fail
        generalize ((V7.setCell ⟨b, 0, none⟩ (.slice (some ⟨g7, 0, none⟩) (T.ix.length + 1) cap7)).setCell ⟨b + 1, 0, none⟩ (.slice (some ⟨g7, 0, none⟩) (T.ix.length + 1) cap7)).setCell ⟨b + 1, 1, none⟩ (.slice (some ⟨bb, bo, none⟩) T.bl.length cb) = V9 at *
        have f0 := cell_blk Hres.out 0
        have f1 := cell_blk Hres.out 1
        refine bodyPost_ret (v := .agg #[.slice (some ⟨g7, 0, none⟩) (T.ix.length + 1) cap7, .slice (some ⟨bb, bo, none⟩) T.bl.length cb]) (results_cell2 rfl rfl f0 f1) rfl ?_
        rw [Hput2.out]
        exact Hout.out
      · rw [decide_eq_false he] at Hq
        have hno2 : ∀ (j : Nat) (_ : j < k + 1) (h : j < T.bl.length), ¬ T.bl[j] = x := fun j h1 h2 => by
          rcases Nat.lt_or_ge j k with h3 | h3
          · exact hno j h3 h2
          · obtain rfl : j = k := by omega
            exact he
        have Hno := Lib.hid hno2
        clear hno hno2 he HP1 HBF
        go_wp2_with fail
        refine Hq.out.mono ?_
        rintro e w7 ⟨rfl, hb7⟩
        go_wp2_with fail
        go_roundw
        case rel => exact ⟨k + 1, by omega, by go_num, Hno.out, hbr.trans (hb7.mono hbr.size)⟩
        case measure => simp [RowKit.intOf]; omega
    · obtain rfl : k = T.bl.length := by omega
      have hmem : x ∉ T.bl := fun h => by
        obtain ⟨j, hj, e⟩ := List.getElem_of_mem h
        exact hno j hj hj e
      have hput2 : putT T x = { ix := T.ix ++ [(T.bl.length : Int)], bl := T.bl ++ [x] } := by rw [Hput.out, if_neg hmem, List.idxOf_eq_length hmem]
      have Hput2 := Lib.hid hput2
      have hxo := (Hxi.out.below hbr).more hbr.size
      have Hxo := Lib.hid hxo
      have HSd := HP1
      clear hmem hput2 hno hxo Htri HP1 u0
      have e0 : wo.cell? ⟨b, 0, none⟩ = some Vi := cell_blk HSd.out.bd 0
      have hc1 := cell_one_new wo (.int .i64 (T.bl.length : Int)) 3
      have hri := HSd.out.st.ri.alloc (.cells #[.int .i64 (T.bl.length : Int)] 3)
      have hfs := HSd.out.st.hF
      have hri' : (wo.alloc (.cells #[.int .i64 (T.bl.length : Int)] 3)).ownsRow F 3 1 Vi T.ix.length (T.ix.map intC) := hri
      go_wp2_with (at_builtin; refine wpList_append_at _ rfl _ _ 37 rfl F 3 j0 (.int .i64 0) 1 8 Tryz.underlying37 hj0 jz0 jz1 jz2 rfl (by decide) Vi T.ix.length (T.ix.map intC) rfl hri' ⟨wo.heap.size, 0, none⟩ 1 1 [.int .i64 (T.bl.length : Int)] rfl rfl hc1 ?qone ?qb1 ?qb2 ?qb3 ?_)
      case qone => first | rfl | (intro u hu; simp at hu; subst hu; rfl)
      case qb1 => simp only [maxLen]; omega
      case qb2 => omega
      case qb3 => first | omega | (simp; omega)
      intro Vi2 V7 hown7 hg7 hat7
      obtain ⟨g7, cap7, rfl⟩ := ownsRow_succ hown7
      obtain ⟨e7, f7, hfin1, hfin2⟩ := HSd.out.fin (nn := (T.bl.length : Int)) _ hown7 hg7 (by rw [World.size_alloc]; exact hat7)
      have Hf := Lib.hid (And.intro hfin1 hfin2)
      clear hfin1 hfin2 hown7 hg7 hat7
      go_upto_region 8 with fail
      have hxo2 : Ints (V7.setCell ⟨b, 0, none⟩ (.slice (some ⟨g7, 0, none⟩) (T.ix.length + 1) cap7)) (V7.setCell ⟨b, 0, none⟩ (.slice (some ⟨g7, 0, none⟩) (T.ix.length + 1) cap7)).heap.size (some xa) 256 x := by
        have hbq := Hf.out.2.1
        refine ⟨Hxl.out, fun hn => ?_⟩
        obtain ⟨xb, xo, e, hlt, hc⟩ := Hxi0.out.at_ hn
        obtain rfl : xa = ⟨xb, xo, none⟩ := by simpa using e
        have hsz1 := hbr.size
        have hsz2 := Hbw.out.size
        have hsz3 := hbq.size
        have hw := Hw.out
        have hbk := (hbq.blk xb (by omega) (by omega) (by omega) Hxd.out.1 Hxd.out.2).trans ((hbr.block xb (by omega)).trans (Hbw.out.block xb hlt))
        exact ⟨xb, xo, rfl, by omega, fun j hj => (World.cell?_of_block (a := ⟨xb, xo + j, none⟩) hbk).trans (hc j hj)⟩
      have HBF2 := Lib.hid (HBF.out.trans Hf.out.2.1 (fun _ _ h => h) (fun _ _ h => h))
      have HP8 := Lib.hid Hf.out.1
      have Hown8 := Lib.hid Hf.out.2.2.1
      have Hxi8 := Lib.hid hxo2
      generalize V7.setCell ⟨b, 0, none⟩ (.slice (some ⟨g7, 0, none⟩) (T.ix.length + 1) cap7) = U0 at *
      clear e7 f7 e0 hc1 hri hfs hri' Hf hxo2 HSd HBF Hxo u1
      generalize (Value.slice (some ⟨g7, 0, none⟩) (T.ix.length + 1) cap7) = Vi8 at *
      go_cut [] (fun wx => ∃ (Vb2 : Value) (xs2 : List Value), PuS F b (b + 1) { ix := T.ix ++ [(T.bl.length : Int)], bl := T.bl ++ [x] } Vi8 Vb2 xs2 wx ∧ BdF b (b + 1) Vi8 (.slice Ab T.bl.length cb) U0.drew wx ∧ (∀ q, q < U0.drew.heap.size → (Value.slice Ab T.bl.length cb).ownBlock ≠ some q → Vb2.ownBlock ≠ some q))
      case first =>
        have hPU := HP8.out.below (Below.refl _ _).drew
        have xU : U0.drew.cell? ⟨b, 1, none⟩ = some (.slice Ab T.bl.length cb) := cell_blk hPU.bd 1
        have hblU : b < U0.drew.heap.size := (Array.getElem?_eq_some_iff.1 hPU.bd).1
        have Hlt := Lib.hid hblU
        have Hfs := Lib.hid hPU.st.hF
        have Hrb := Lib.hid (fun (V3 : World) (hb : Below U0.drew.heap.size U0.drew V3) => ownsRow_below hPU.st.rb hb)
        have Hbv := Lib.hid (show (Value.slice Ab T.bl.length cb).ownBlock ≠ some b from fun e => hPU.st.xb b e (.inl rfl))
        have Hfz := Lib.hid (fun (V3 V5 : World) (o : Obj) (hb : Below U0.drew.heap.size U0.drew V3) (hg : (V3.alloc o).grownBy V5 (Value.slice Ab T.bl.length cb).ownBlock) =>
          (frozen_blk ((hg.block b (by have := hb.size; simp; omega) (fun e => hPU.st.xb b e.symm (.inl rfl))).trans ((heap_old (show b < V3.heap.size by have := hb.size; omega)).trans ((hb.block b hblU).trans hPU.bd))) 1 : V5.frozen? ⟨b, 1, none⟩ = false))
        have Hmid := Lib.hid (fun (V3 V5 : World) (Vb2 : Value) (g c : Nat) (o : Obj) (h3 : Below U0.drew.heap.size U0.drew V3) (h4 : U0.drew.heap.size ≤ g) (h5 : g < V3.heap.size) (h6 : 256 ≤ c) (h7 : Ints V3 V3.heap.size (some ⟨g, 0, none⟩) 256 x) h8 h9 h10 =>
          PuS.mid (U := U0.drew) (V3 := V3) (V5 := V5) (Vb2 := Vb2) (g := g) (c := c) hPU Hxl.out h3 h4 h5 h6 h7 o h8 h9 h10)
        have hxU := Hxi8.out.below (Below.refl _ _).drew
        have hcells := hxU.cells xa rfl
        have hone := ints_one x
        have hvl : (x.map intC).length = 256 * 1 := by simp [Hxl.out]
        have Hcl : Hid (∀ (v : Value) (V3 : World), V3.ownsRow U0.drew.heap.size 3 1 v (0 + 256) ([] ++ x.map intC) → U0.drew.grownBy V3 (Value.slice none 0 0).ownBlock → ∃ g c2, v = .slice (some ⟨g, 0, none⟩) 256 c2 ∧ 256 ≤ c2 ∧ U0.drew.heap.size ≤ g ∧ g < V3.heap.size ∧ Ints V3 V3.heap.size (some ⟨g, 0, none⟩) 256 x ∧ Below U0.drew.heap.size U0.drew V3) := Lib.hid fun v V3 hr hg => by
          rw [List.nil_append, Nat.zero_add] at hr
          rcases hr.2 with ⟨_, h⟩ | ⟨g, cap, cur, rfl, hb, hgg, hc, _⟩
          · omega
          · exact ⟨g, cap, rfl, hc, hb, (Array.getElem?_eq_some_iff.1 hgg).1, Ints.of_own (c := cap) hr, (Below.refl _ U0.drew).grown hg (Nat.le_refl _) (by intro k hk; simp [Value.ownBlock] at hk)⟩
        generalize x.map intC = xcs at *
        have Hxc := Lib.hid (And.intro hvl (And.intro hcells hone))
        clear hPU hxU hcells hone hvl
        refine wp_region_noPanic ?_
        refine wp_region_held_drew (S := fun _ => True) (by kernel_rfl) trivial (fun hHeld => ?_)
        generalize U0.drew = U at *
        refine wpAnyH_take (i := 0) (v := .pointer (some ⟨b, 1, none⟩)) rfl (by kernel_rfl) (by kernel_rfl) (by kernel_rfl) (fun _ _ _ h => h) (.inl ⟨by rfl, fun V hV => by go_simp⟩) hHeld ?_
        try simp only [Act.put, qB, qC, qE, qF, qG]
        refine wpAnyH_take (i := 2) (v := .slice (some xa) 256 xc) rfl (by kernel_rfl) (by kernel_rfl) (by kernel_rfl) (fun _ _ _ h => h) (.inl ⟨by rfl, fun V hV => by go_simp⟩) hHeld ?_
        try simp only [Act.put, qB, qC, qD, qE, qF, qG]
        refine wpAnyH_ready (rs := [1, 3]) (by kernel_rfl) (by simp) ?_
        refine AllReadyH.cons rfl (fun K hK => ?_) (AllReadyH.cons rfl (fun K hK => ?_) AllReadyH.nil)
        · go_simp
          refine hK.out _ _ trivial (fun hHeld => ?_)
          clear hK K
          try simp only [Act.put, qB, qC, qD, qE, qF, qG]
          refine wpAnyH_ready (rs := [3]) (by kernel_rfl) (by simp) ?_
          refine AllReadyH.cons rfl (fun K hK => ?_) AllReadyH.nil
          refine step_append_where rfl _ _ 37 rfl U.heap.size 3 j0 (.int .i64 0) 1 8 Tryz.underlying37 hj0 jz0 jz1 jz2 rfl (by decide) (.slice none 0 0) 0 [] (by simp [Act.eval]) (World.ownsRow_nil _ _ _ _) xa 256 xc xcs (by simp [Act.eval]) Hxc.out.1 Hxc.out.2.1 Hxc.out.2.2 (by simp only [maxLen]; omega) (by omega) (Nat.le_refl _) ?_
          intro vq V3 hownq hgq hatq
          obtain ⟨g, c2, rfl, hc2, hg1, hg2, hgi, hb3⟩ := Hcl.out vq V3 hownq hgq
          clear hownq hgq hatq
          have x3 := (World.cell?_of_block (a := ⟨b, 1, none⟩) (hb3.block b Hlt.out)).trans xU
          refine hK.out _ _ trivial (fun hHeld => ?_)
          clear hK K
          try simp only [Act.put, qB, qC, qD, qE, qF, qG]
          refine wpAnyH_ready (rs := [4]) (by kernel_rfl) (by simp) ?_
          refine AllReadyH.cons rfl (fun K hK => ?_) AllReadyH.nil
          go_simp
          have x4 : (V3.alloc (.cells #[.slice (some ⟨g, 0, none⟩) 256 c2] 37)).cell? ⟨b, 1, none⟩ = some (.slice Ab T.bl.length cb) := (World.cell?_alloc_lt _ _ _ (show b < V3.heap.size by have := hb3.size; have := Hlt.out; omega)).trans x3
          have hc1 := cell_one_new V3 (.slice (some ⟨g, 0, none⟩) 256 c2) 37
          have hrb := (Hrb.out V3 hb3).alloc (.cells #[.slice (some ⟨g, 0, none⟩) 256 c2] 37)
          have hfs : F ≤ (V3.alloc (.cells #[.slice (some ⟨g, 0, none⟩) 256 c2] 37)).heap.size := by have := Hfs.out; have := hb3.size; simp; omega
          have hbs : b < (V3.alloc (.cells #[.slice (some ⟨g, 0, none⟩) 256 c2] 37)).heap.size := by have := Hlt.out; have := hb3.size; simp; omega
          have hfz : ∀ V5, (V3.alloc (.cells #[.slice (some ⟨g, 0, none⟩) 256 c2] 37)).grownBy V5 (Value.slice Ab T.bl.length cb).ownBlock → V5.frozen? ⟨b, 1, none⟩ = false := fun V5 h5 => Hfz.out V3 V5 _ hb3 h5
          obtain ⟨V4, hV4⟩ : ∃ V4, V4 = V3.alloc (.cells #[.slice (some ⟨g, 0, none⟩) 256 c2] 37) := ⟨_, rfl⟩
          rw [← hV4] at x4 hc1 hrb hfs hbs hfz
          rw [← hV4]
          have HV4 := Lib.hid hV4
          have Hrb4 := Lib.hid hrb
          have Hfz4 := Lib.hid hfz
          have Hc1 := Lib.hid hc1
          clear hV4 hrb hfz hc1
          refine hK.out _ _ trivial (fun hHeld => ?_)
          clear hK K
          try simp only [Act.put, qB, qC, qD, qE, qF, qG]
          refine wpAnyH_ready (rs := [5]) (by kernel_rfl) (by simp) ?_
          refine AllReadyH.cons rfl (fun K hK => ?_) AllReadyH.nil
          refine step_append_where rfl _ _ 38 rfl F 37 i0 (.slice none 0 0) 1 24 Tryz.underlying38 hi0 hz0 hz1 hz2 rfl (by decide) (.slice Ab T.bl.length cb) T.bl.length xs (by simp [Act.eval]) Hrb4.out ⟨V3.heap.size, 0, none⟩ 1 1 [.slice (some ⟨g, 0, none⟩) 256 c2] (by simp [Act.eval]) rfl Hc1.out (by intro u hu; simp at hu; subst hu; rfl) (by simp only [maxLen]; omega) (by omega) hfs ?_
          intro Vb2 V5 hown5 hg5 hat5
          have x5 := (World.cell?_of_block (a := ⟨b, 1, none⟩) (hg5.block b hbs (fun e => Hbv.out e.symm))).trans x4
          have f5 := Hfz4.out V5 hg5
          obtain ⟨g5, cap5, rfl⟩ := ownsRow_succ hown5
          rw [HV4.out] at hg5 hat5
          obtain ⟨hm1, hm2, hm3⟩ := Hmid.out V3 V5 _ g c2 _ hb3 hg1 hg2 hc2 hgi hown5 hg5 hat5
          have Hm := Lib.hid (And.intro hm1 (And.intro hm2 hm3))
          clear hm1 hm2 hm3 hown5 hg5 hat5
          refine hK.out _ _ trivial (fun hHeld => ?_)
          clear hK K
          try simp only [Act.put, qB, qC, qD, qE, qF, qG]
          refine wpAnyH_take (i := 6) (v := .pointer (some ⟨b, 1, none⟩)) rfl (by kernel_rfl) (by kernel_rfl) (by kernel_rfl) (fun _ _ _ h => h) (.inl ⟨by rfl, fun V hV => by go_simp⟩) hHeld ?_
          try simp only [Act.put, qB, qC, qD, qE, qF, qG]
          refine wpAnyH_ready (rs := [7]) (by kernel_rfl) (by simp) ?_
          refine AllReadyH.cons rfl (fun K hK => ?_) AllReadyH.nil
          go_simp
          refine hK.out _ _ trivial (fun hHeld => ?_)
          clear hK K
          try simp only [Act.put, qB, qC, qD, qE, qF, qG]
          refine wpAnyH_done (by kernel_rfl) ?_ _
          refine NoPanic.normal ?_
          go_wp2_with fail
          go_meet
          exact ⟨_, _, Hm.out.1, Hm.out.2.1, Hm.out.2.2⟩
        · refine step_append_where rfl _ _ 37 rfl U.heap.size 3 j0 (.int .i64 0) 1 8 Tryz.underlying37 hj0 jz0 jz1 jz2 rfl (by decide) (.slice none 0 0) 0 [] (by simp [Act.eval]) (World.ownsRow_nil _ _ _ _) xa 256 xc xcs (by simp [Act.eval]) Hxc.out.1 Hxc.out.2.1 Hxc.out.2.2 (by simp only [maxLen]; omega) (by omega) (Nat.le_refl _) ?_
          intro vq V3 hownq hgq hatq
          obtain ⟨g, c2, rfl, hc2, hg1, hg2, hgi, hb3⟩ := Hcl.out vq V3 hownq hgq
          clear hownq hgq hatq
          have x3 := (World.cell?_of_block (a := ⟨b, 1, none⟩) (hb3.block b Hlt.out)).trans xU
          refine hK.out _ _ trivial (fun hHeld => ?_)
          clear hK K
          try simp only [Act.put, qB, qC, qD, qE, qF, qG]
          refine wpAnyH_ready (rs := [1, 4]) (by kernel_rfl) (by simp) ?_
          refine AllReadyH.cons rfl (fun K hK => ?_) (AllReadyH.cons rfl (fun K hK => ?_) AllReadyH.nil)
          · go_simp
            refine hK.out _ _ trivial (fun hHeld => ?_)
            clear hK K
            try simp only [Act.put, qB, qC, qD, qE, qF, qG]
            refine wpAnyH_ready (rs := [4]) (by kernel_rfl) (by simp) ?_
            refine AllReadyH.cons rfl (fun K hK => ?_) AllReadyH.nil
            go_simp
            have x4 : (V3.alloc (.cells #[.slice (some ⟨g, 0, none⟩) 256 c2] 37)).cell? ⟨b, 1, none⟩ = some (.slice Ab T.bl.length cb) := (World.cell?_alloc_lt _ _ _ (show b < V3.heap.size by have := hb3.size; have := Hlt.out; omega)).trans x3
            have hc1 := cell_one_new V3 (.slice (some ⟨g, 0, none⟩) 256 c2) 37
            have hrb := (Hrb.out V3 hb3).alloc (.cells #[.slice (some ⟨g, 0, none⟩) 256 c2] 37)
            have hfs : F ≤ (V3.alloc (.cells #[.slice (some ⟨g, 0, none⟩) 256 c2] 37)).heap.size := by have := Hfs.out; have := hb3.size; simp; omega
            have hbs : b < (V3.alloc (.cells #[.slice (some ⟨g, 0, none⟩) 256 c2] 37)).heap.size := by have := Hlt.out; have := hb3.size; simp; omega
            have hfz : ∀ V5, (V3.alloc (.cells #[.slice (some ⟨g, 0, none⟩) 256 c2] 37)).grownBy V5 (Value.slice Ab T.bl.length cb).ownBlock → V5.frozen? ⟨b, 1, none⟩ = false := fun V5 h5 => Hfz.out V3 V5 _ hb3 h5
            obtain ⟨V4, hV4⟩ : ∃ V4, V4 = V3.alloc (.cells #[.slice (some ⟨g, 0, none⟩) 256 c2] 37) := ⟨_, rfl⟩
            rw [← hV4] at x4 hc1 hrb hfs hbs hfz
            rw [← hV4]
            have HV4 := Lib.hid hV4
            have Hrb4 := Lib.hid hrb
            have Hfz4 := Lib.hid hfz
            have Hc1 := Lib.hid hc1
            clear hV4 hrb hfz hc1
            refine hK.out _ _ trivial (fun hHeld => ?_)
            clear hK K
            try simp only [Act.put, qB, qC, qD, qE, qF, qG]
            refine wpAnyH_ready (rs := [5]) (by kernel_rfl) (by simp) ?_
            refine AllReadyH.cons rfl (fun K hK => ?_) AllReadyH.nil
            refine step_append_where rfl _ _ 38 rfl F 37 i0 (.slice none 0 0) 1 24 Tryz.underlying38 hi0 hz0 hz1 hz2 rfl (by decide) (.slice Ab T.bl.length cb) T.bl.length xs (by simp [Act.eval]) Hrb4.out ⟨V3.heap.size, 0, none⟩ 1 1 [.slice (some ⟨g, 0, none⟩) 256 c2] (by simp [Act.eval]) rfl Hc1.out (by intro u hu; simp at hu; subst hu; rfl) (by simp only [maxLen]; omega) (by omega) hfs ?_
            intro Vb2 V5 hown5 hg5 hat5
            have x5 := (World.cell?_of_block (a := ⟨b, 1, none⟩) (hg5.block b hbs (fun e => Hbv.out e.symm))).trans x4
            have f5 := Hfz4.out V5 hg5
            obtain ⟨g5, cap5, rfl⟩ := ownsRow_succ hown5
            rw [HV4.out] at hg5 hat5
            obtain ⟨hm1, hm2, hm3⟩ := Hmid.out V3 V5 _ g c2 _ hb3 hg1 hg2 hc2 hgi hown5 hg5 hat5
            have Hm := Lib.hid (And.intro hm1 (And.intro hm2 hm3))
            clear hm1 hm2 hm3 hown5 hg5 hat5
            refine hK.out _ _ trivial (fun hHeld => ?_)
            clear hK K
            try simp only [Act.put, qB, qC, qD, qE, qF, qG]
            refine wpAnyH_take (i := 6) (v := .pointer (some ⟨b, 1, none⟩)) rfl (by kernel_rfl) (by kernel_rfl) (by kernel_rfl) (fun _ _ _ h => h) (.inl ⟨by rfl, fun V hV => by go_simp⟩) hHeld ?_
            try simp only [Act.put, qB, qC, qD, qE, qF, qG]
            refine wpAnyH_ready (rs := [7]) (by kernel_rfl) (by simp) ?_
            refine AllReadyH.cons rfl (fun K hK => ?_) AllReadyH.nil
            go_simp
            refine hK.out _ _ trivial (fun hHeld => ?_)
            clear hK K
            try simp only [Act.put, qB, qC, qD, qE, qF, qG]
            refine wpAnyH_done (by kernel_rfl) ?_ _
            refine NoPanic.normal ?_
            go_wp2_with fail
            go_meet
            exact ⟨_, _, Hm.out.1, Hm.out.2.1, Hm.out.2.2⟩
          · go_simp
            have x4 : (V3.alloc (.cells #[.slice (some ⟨g, 0, none⟩) 256 c2] 37)).cell? ⟨b, 1, none⟩ = some (.slice Ab T.bl.length cb) := (World.cell?_alloc_lt _ _ _ (show b < V3.heap.size by have := hb3.size; have := Hlt.out; omega)).trans x3
            have hc1 := cell_one_new V3 (.slice (some ⟨g, 0, none⟩) 256 c2) 37
            have hrb := (Hrb.out V3 hb3).alloc (.cells #[.slice (some ⟨g, 0, none⟩) 256 c2] 37)
            have hfs : F ≤ (V3.alloc (.cells #[.slice (some ⟨g, 0, none⟩) 256 c2] 37)).heap.size := by have := Hfs.out; have := hb3.size; simp; omega
            have hbs : b < (V3.alloc (.cells #[.slice (some ⟨g, 0, none⟩) 256 c2] 37)).heap.size := by have := Hlt.out; have := hb3.size; simp; omega
            have hfz : ∀ V5, (V3.alloc (.cells #[.slice (some ⟨g, 0, none⟩) 256 c2] 37)).grownBy V5 (Value.slice Ab T.bl.length cb).ownBlock → V5.frozen? ⟨b, 1, none⟩ = false := fun V5 h5 => Hfz.out V3 V5 _ hb3 h5
            obtain ⟨V4, hV4⟩ : ∃ V4, V4 = V3.alloc (.cells #[.slice (some ⟨g, 0, none⟩) 256 c2] 37) := ⟨_, rfl⟩
            rw [← hV4] at x4 hc1 hrb hfs hbs hfz
            rw [← hV4]
            have HV4 := Lib.hid hV4
            have Hrb4 := Lib.hid hrb
            have Hfz4 := Lib.hid hfz
            have Hc1 := Lib.hid hc1
            clear hV4 hrb hfz hc1
            refine hK.out _ _ trivial (fun hHeld => ?_)
            clear hK K
            try simp only [Act.put, qB, qC, qD, qE, qF, qG]
            refine wpAnyH_ready (rs := [1]) (by kernel_rfl) (by simp) ?_
            refine AllReadyH.cons rfl (fun K hK => ?_) AllReadyH.nil
            go_simp
            refine hK.out _ _ trivial (fun hHeld => ?_)
            clear hK K
            try simp only [Act.put, qB, qC, qD, qE, qF, qG]
            refine wpAnyH_ready (rs := [5]) (by kernel_rfl) (by simp) ?_
            refine AllReadyH.cons rfl (fun K hK => ?_) AllReadyH.nil
            refine step_append_where rfl _ _ 38 rfl F 37 i0 (.slice none 0 0) 1 24 Tryz.underlying38 hi0 hz0 hz1 hz2 rfl (by decide) (.slice Ab T.bl.length cb) T.bl.length xs (by simp [Act.eval]) Hrb4.out ⟨V3.heap.size, 0, none⟩ 1 1 [.slice (some ⟨g, 0, none⟩) 256 c2] (by simp [Act.eval]) rfl Hc1.out (by intro u hu; simp at hu; subst hu; rfl) (by simp only [maxLen]; omega) (by omega) hfs ?_
            intro Vb2 V5 hown5 hg5 hat5
            have x5 := (World.cell?_of_block (a := ⟨b, 1, none⟩) (hg5.block b hbs (fun e => Hbv.out e.symm))).trans x4
            have f5 := Hfz4.out V5 hg5
            obtain ⟨g5, cap5, rfl⟩ := ownsRow_succ hown5
            rw [HV4.out] at hg5 hat5
            obtain ⟨hm1, hm2, hm3⟩ := Hmid.out V3 V5 _ g c2 _ hb3 hg1 hg2 hc2 hgi hown5 hg5 hat5
            have Hm := Lib.hid (And.intro hm1 (And.intro hm2 hm3))
            clear hm1 hm2 hm3 hown5 hg5 hat5
            refine hK.out _ _ trivial (fun hHeld => ?_)
            clear hK K
            try simp only [Act.put, qB, qC, qD, qE, qF, qG]
            refine wpAnyH_take (i := 6) (v := .pointer (some ⟨b, 1, none⟩)) rfl (by kernel_rfl) (by kernel_rfl) (by kernel_rfl) (fun _ _ _ h => h) (.inl ⟨by rfl, fun V hV => by go_simp⟩) hHeld ?_
            try simp only [Act.put, qB, qC, qD, qE, qF, qG]
            refine wpAnyH_ready (rs := [7]) (by kernel_rfl) (by simp) ?_
            refine AllReadyH.cons rfl (fun K hK => ?_) AllReadyH.nil
            go_simp
            refine hK.out _ _ trivial (fun hHeld => ?_)
            clear hK K
            try simp only [Act.put, qB, qC, qD, qE, qF, qG]
            refine wpAnyH_done (by kernel_rfl) ?_ _
            refine NoPanic.normal ?_
            go_wp2_with fail
            go_meet
            exact ⟨_, _, Hm.out.1, Hm.out.2.1, Hm.out.2.2⟩
      case rest =>
        obtain ⟨Vb2, xs2, hP, hF2, hown⟩ := hcut
        obtain ⟨A1, n1, c1, A2, n2, c2, rfl, rfl, _⟩ := hP.st.tri
        have d0 := cell_blk hP.bd 0
        have d1 := cell_blk hP.bd 1
        have d2 := cell_blk hP.zr 0
        have d3 := cell_blk hP.zr 1
        have d4 := frozen_blk hP.zr 0
        have d5 := frozen_blk hP.zr 1
        have Hout := Lib.hid (hP.out ((HBF2.out.trans ((BdF.below (Below.refl _ U0).drew).trans hF2 (fun _ _ h => h) (fun _ _ h => h)) (fun q hq h => Hown8.out q (by have := hbr.size; have := Hbw.out.size; omega) h) (fun _ _ h => h))) (by have := Hw.out; omega) (by have := Hw.out; omega))
        have Hres := Lib.hid hP.res
        clear hP hF2 hown HBF2
        go_wp2_with fail
        generalize (wc.setCell ⟨b + 1, 0, none⟩ (.slice A1 n1 c1)).setCell ⟨b + 1, 1, none⟩ (.slice A2 n2 c2) = V9 at *
        have f0 := cell_blk Hres.out 0
        have f1 := cell_blk Hres.out 1
        refine bodyPost_ret (v := .agg #[.slice A1 n1 c1, .slice A2 n2 c2]) (results_cell2 rfl rfl f0 f1) rfl ?_
        rw [Hput2.out]
        exact Hout.out
end Go.Vir



namespace Go.Vir
open Go Go.RowKit Go.Proofs
attribute [local go_sem] Oper.semAt_some

theorem chk_all {T : TrV} {cs : List (List UInt8)} (h : chkW T cs = 0) : ∀ x ∈ cs, (scalarsU x).isSome = true := by
  unfold chkW at h
  split at h
  · split at h
    · rename_i h2; exact fun x hx => List.all_eq_true.1 h2 x hx
    · cases h
  · cases h
end Go.Vir


namespace Go.Vir
open Go Go.RowKit Go.Proofs
attribute [local go_sem] Oper.semAt_some

theorem sumW_mono (T : TrV) (wd : Bool) (cs : List (List UInt8)) {i j : Nat} (h : i ≤ j) : sumW T wd (cs.take i) ≤ sumW T wd (cs.take j) := by
  obtain ⟨k, rfl⟩ := Nat.exists_eq_add_of_le h
  rw [List.take_add, sumW_app]
  have := (sumW_ends T wd ((cs.drop i).take k)).1
  omega
theorem fit_next {T : TrV} {wd : Bool} {n : Int} {cs : List (List UInt8)} {i : Nat} (h : i ≤ fitW T wd n cs 0) (hi : i < cs.length) (hs : sumW T wd (cs.take (i + 1)) ≤ n) : i + 1 ≤ fitW T wd n cs 0 := by
  rcases Nat.lt_or_ge i (fitW T wd n cs 0) with h1 | h1
  · exact h1
  · have e : fitW T wd n cs 0 = i := by omega
    have := (fitW_law T wd n cs 0 (by omega)).2
    rw [e] at this
    omega
theorem fit_stop {T : TrV} {wd : Bool} {n : Int} {cs : List (List UInt8)} {i : Nat} (h : i ≤ fitW T wd n cs 0) (hs : n < sumW T wd (cs.take (i + 1))) : fitW T wd n cs 0 = i := by
  rcases Nat.lt_or_ge i (fitW T wd n cs 0) with h1 | h1
  · rcases Int.lt_or_le n 0 with hn | hn
    · rw [fitW_neg T wd cs hn] at h1; omega
    · have h2 := (fitW_law T wd n cs 0 (by omega)).1 hn
      have h3 := sumW_mono T wd cs (show i + 1 ≤ fitW T wd n cs 0 by omega)
      omega
  · omega
theorem fitsW_bad {T : TrV} {wd : Bool} {cs : List (List UInt8)} {n k : Int} (h : chkW T cs = k) (hk : k ≠ 0) : fitsW T wd cs n = (0, k) := by
  unfold fitsW; rw [h, if_neg hk]
theorem fitsW_ok {T : TrV} {wd : Bool} {cs : List (List UInt8)} {n : Int} (h : chkW T cs = 0) : fitsW T wd cs n = (((fitW T wd n cs 0 : Nat) : Int), 0) := by
  unfold fitsW; rw [if_pos h]

set_option maxRecDepth 100000 in
set_option maxHeartbeats 4000000 in
theorem width_Fit (Ai : Option Addr) (ni ci : Nat) (Ab : Option Addr) (nb cb : Nat) (wd : Bool) (T : TrV) (A : Option Addr) (n c : Nat) (mx : Int) (cs : List (List UInt8)) (p q u p2 q2 : Addr) (w : World) (hT : Tri w w.heap.size Ai ni Ab nb T) (hi : ni ≤ 1000000) (hnb : nb ≤ 1000000) (hbs : ∀ b ∈ T.bl, b.length ≤ 1000000)
    (hx : Strs w w.heap.size A n cs) (hn : n ≤ 1000000) (hcs : ∀ x ∈ cs, x.length ≤ 1000000) (hg : WidG w p q u) (hs : ScaG w p2 q2) :
    Calls Tryz.prog 42 #[.agg #[.slice Ai ni ci, .slice Ab nb cb, .bool wd], .slice A n c, .int .i64 mx] w fun e w' => e = .returned (.tuple #[.int .i64 (fitsW T wd cs mx).1, .int .i64 (fitsW T wd cs mx).2]) ∧ Below w.heap.size w w' := by
  have hbw : Below w.heap.size w ((w.alloc (.cells #[.slice Ai ni ci, .slice Ab nb cb, .bool wd] 42)).alloc (.cells #[.int .i64 mx] 3)) := by go_grown
  have hop := width_open Ai ni ci Ab nb cb wd T A n c cs p q u p2 q2 ((w.alloc (.cells #[.slice Ai ni ci, .slice Ab nb cb, .bool wd] 42)).alloc (.cells #[.int .i64 mx] 3)) ((hT.below hbw).more hbw.size) hi hnb hbs ((hx.below hbw).more hbw.size) hn hcs (hg.below hbw) (hs.below hbw)
  rw [World.size_alloc, World.size_alloc] at hop
  have Hop := Lib.hid hop
  have Hbw := Lib.hid hbw
  have Hg := Lib.hid hg
  have Hx := Lib.hid hx
  have Hcs := Lib.hid hcs
  clear hop hbw hg hs hT hx hcs
  refine (callsIn_wide (n := 0)).1 ?_
  refine callsIn_of_wp_marks Tryz.func42 rfl trivial ?_ rfl
  simp only [Tryz.ntmps42, List.size_toArray, List.length_cons, List.length_nil, Nat.reduceAdd, Nat.reduceSub, Array.replicate_succ, Array.replicate_zero, List.push_toArray, List.append_toArray, List.nil_append, List.cons_append]
  refine wpIn_wide.2 ?_
  go_wp2_with fail
  refine Hop.out.mono ?_
  rintro e w1 ⟨h1, hb1⟩
  have hbf := Hbw.out.trans (hb1.mono (by omega))
  rcases h1 with ⟨hc, rfl⟩ | ⟨hc, rfl⟩ | ⟨hc, rb, m, rfl, hru⟩
  · have Ho := Lib.hid (fitsW_bad (wd := wd) (n := mx) hc (by omega))
    have Htd := Lib.hid (width_told_width p q u w1 (Hg.out.below hbf))
    clear hc
    go_wp2_with fail
    refine Htd.out.mono ?_
    rintro e w2 ⟨rfl, rfl⟩
    go_wp2_with fail
    exact ⟨_, results_tmp2 rfl _ _ _, by rw [Ho.out]; rfl, hbf⟩
  · have Ho := Lib.hid (fitsW_bad (wd := wd) (n := mx) hc (by omega))
    have Htd := Lib.hid (width_told_utf p q u w1 (Hg.out.below hbf))
    clear hc
    go_wp2_with fail
    refine Htd.out.mono ?_
    rintro e w2 ⟨rfl, rfl⟩
    go_wp2_with fail
    exact ⟨_, results_tmp2 rfl _ _ _, by rw [Ho.out]; rfl, hbf⟩
  · have Ho := Lib.hid (fitsW_ok (wd := wd) (n := mx) hc)
    have hall := chk_all hc
    have hbx := hru.bm
    have hbr := hru.br
    have hne : rb ≠ m := by
      rintro rfl
      obtain ⟨es, ck, kvs, g1, _⟩ := hru.mp
      have := hru.bx
      rw [g1] at this
      cases this
    have hml : m < w1.heap.size := by obtain ⟨es, ck, kvs, g1, _⟩ := hru.mp; exact (Array.getElem?_eq_some_iff.1 g1).1
    have hrl : rb < w1.heap.size := (Array.getElem?_eq_some_iff.1 hru.bx).1
    have hs1 : w.heap.size + 2 ≤ w1.heap.size := by have := hb1.size; simpa using this
    have hmx := (hb1.block (w.heap.size + 1) (by omega)).trans (heap_new (w := w.alloc (.cells #[.slice Ai ni ci, .slice Ab nb cb, .bool wd] 42)) (o := .cells #[.int .i64 mx] 3) (by simp))
    have Hru := Lib.hid hru
    clear hc hru
    go_wp2_with (go_at_call 74; refine (sums_make _ _ _ _ _).mono ?_; rintro e w4 ⟨rfl, rfl⟩)
    refine wp_gen ?_
    intro W2 hW2
    have hsz : W2.heap.size = w1.heap.size + 3 := by simp [hW2]
    have hb2 : Below w1.heap.size w1 W2 := by rw [hW2]; go_grown
    have d0 : W2.heap[w1.heap.size]? = some (.cells #[.int .i64 0] 3 (0, 0)) := (by rw [hW2]; simp (disch := (first | omega | (simp only [World.size_alloc]; done) | (simp only [World.size_alloc]; omega))) only [heap_laws])
    have d1 : W2.heap[w1.heap.size + 1]? = some (.cells #[.pointer (some ⟨rb, 0, none⟩)] 91 (0, 0)) := (by rw [hW2]; simp (disch := (first | omega | (simp only [World.size_alloc]; done) | (simp only [World.size_alloc]; omega))) only [heap_laws])
    have d2 : W2.heap[w1.heap.size + 2]? = some (.cells #[.slice A n c] 22 (0, 0)) := (by rw [hW2]; simp (disch := (first | omega | (simp only [World.size_alloc]; done) | (simp only [World.size_alloc]; omega))) only [heap_laws])
    clear hW2
    have hbW : Below w.heap.size w W2 := hbf.trans (hb2.mono hbf.size)
    have hit := sums_iter (w.heap.size + 1 + 1) (w1.heap.size + 2) (w1.heap.size + 1) rb m Ai ni ci Ab nb cb wd T A n c cs W2 (by omega) (by omega) (by omega) (by omega) (by omega) (Hru.out.keep hb2) d2 d1 ((Hx.out.below hbW).more (by omega)) hn (fun x hx => ⟨Hcs.out x hx, hall x hx⟩)
    have Hit := Lib.hid hit
    have HbW := Lib.hid hbW
    have hmx2 := (hb2.block (w.heap.size + 1) (by omega)).trans hmx
    clear hit hbW hall
    refine (wpIn_wide (n := 0)).1 ?_
    refine range_law (a₁ := ?a1) rfl (enters_of Tryz.func113 (by kernel_rfl) rfl) Hit.out (Below.refl _ _)
      (fun k hk => ?hO) (by omega) (fun _ => rfl)
      (fun i W => Below w.heap.size w W ∧ W.heap[w1.heap.size]? = some (.cells #[.int .i64 (i : Int)] 3 (0, 0)) ∧ W.heap[w.heap.size + 1]? = some (.cells #[.int .i64 mx] 3 (0, 0)) ∧ i ≤ fitW T wd mx cs 0)
      (fun i c W => c = .exit 0 ∧ Below w.heap.size w W ∧ W.heap[w1.heap.size]? = some (.cells #[.int .i64 (i : Int)] 3 (0, 0)) ∧ fitW T wd mx cs 0 = i)
      (fun i X Y hi hm => by
        obtain ⟨h1, h2, h3, h4⟩ := hi
        exact ⟨Below.moves h1 hm (by omega) (fun k hk => by rcases hk with (rfl | rfl) | (rfl | rfl) <;> omega), hm.cells h2 (by rintro ((h | h) | (h | h)) <;> omega), hm.cells h3 (by rintro ((h | h) | (h | h)) <;> omega), h4⟩)
      (fun i c X Y hi hm => by
        obtain ⟨h1, h2, h3, h4⟩ := hi
        exact ⟨h1, Below.moves h2 hm (by omega) (fun k hk => by rcases hk with (rfl | rfl) | (rfl | rfl) <;> omega), hm.cells h3 (by rintro ((h | h) | (h | h)) <;> omega), h4⟩)
      ⟨HbW.out, d0, hmx2, Nat.zero_le _⟩ ?assign ?body ?done ?stop
    case hO => rcases hk with (rfl | rfl) | (rfl | rfl) <;> omega
    case assign =>
      intro l i W K hK
      gi_wp2
      exact hK
    case body =>
      rintro lp i W hi ⟨hbW, hv, hm1, hfi⟩ hsW
      have e0 := cell_blk hv 0
      have f0 := frozen_blk hv 0
      have e1 := cell_blk hm1 0
      have hil : i < cs.length := by rw [Hx.out.len]; exact hi
      have hfs := fun h => fit_stop (n := mx) (T := T) (wd := wd) (cs := cs) hfi h
      have hfn := fun h => fit_next (n := mx) (T := T) (wd := wd) (cs := cs) hfi hil h
      have hst := setCell_blk hv 0 (.int .i64 ((i : Int) + 1))
      have Hst := Lib.hid (And.intro hv (And.intro hm1 hst))
      have Hfs := Lib.hid hfs
      have Hfn := Lib.hid hfn
      clear hst hv hm1 hfs hfn
      generalize sumW T wd (cs.take (i + 1)) = z at *
      by_cases hz : mx < z
      · gi_wp2
        exact ⟨Keeps.refl _ _ _, rfl, hbW, Hst.out.1, Hfs.out hz⟩
      · gi_wp2
        exact ⟨Keeps.setCell W (p := ⟨w1.heap.size, 0, none⟩) (by rintro ((h | h) | (h | h)) <;> (have h : w1.heap.size = _ := h; omega)) (by show w.heap.size + 1 + 1 ≤ w1.heap.size; omega) _, hbW.setCell (p := ⟨w1.heap.size, 0, none⟩) (by show w.heap.size ≤ w1.heap.size; omega) _, by simpa using Hst.out.2.2, (Below.heap_setCell _ _ _ _ (by show w.heap.size + 1 ≠ w1.heap.size; omega)).trans Hst.out.2.1, Hfn.out (by omega)⟩
    case done =>
      rintro D W hD ⟨hbW, hv, hm1, hfi⟩ hK
      have e0 := cell_blk hv 0
      have hfn : fitW T wd mx cs 0 = n := by have := fitW_le T wd mx cs 0; have := Hx.out.len; omega
      have Hfn := Lib.hid hfn
      clear hfn
      clear hv
      go_wp2
      refine ⟨by simp, .inl ⟨_, _, rfl, run_takeDeferred hK, ?_⟩⟩
      refine ⟨_, results_tmp2 rfl _ _ _, by rw [Ho.out, Hfn.out]; rfl, ?_⟩
      exact hbW.trans ⟨rfl, rfl, rfl, by simp, fun k hk => World.putObj_heap_other (by omega)⟩
    case stop =>
      rintro D i c W hD hi ⟨rfl, hbW, hv, hfe⟩ hK
      have e0 := cell_blk hv 0
      have Hfe := Lib.hid hfe
      clear hv hfe
      gi_wp2
      go_wp2
      refine ⟨by simp, .inl ⟨_, _, rfl, run_takeDeferred hK, ?_⟩⟩
      refine ⟨_, results_tmp2 rfl _ _ _, by rw [Ho.out, Hfe.out]; rfl, ?_⟩
      exact hbW.trans ⟨rfl, rfl, rfl, by simp, fun k hk => World.putObj_heap_other (by omega)⟩
end Go.Vir


namespace Go.Vir
open Go Go.RowKit Go.Proofs
attribute [local go_sem] Oper.semAt_some

def widN : List (List UInt8) := [[78], [65], [72], [87], [70], [78, 97], [90]]
def widO : Obj := .cells #[.string ⟨#[78]⟩, .string ⟨#[65]⟩, .string ⟨#[72]⟩, .string ⟨#[87]⟩, .string ⟨#[70]⟩, .string ⟨#[78, 97]⟩, .string ⟨#[90]⟩] 9
theorem widN_strs (w : World) : Strs (w.alloc widO) (w.alloc widO).heap.size (some ⟨w.heap.size, 0, none⟩) 7 widN := by
  refine ⟨rfl, fun _ => ⟨_, 0, rfl, by simp, fun j hj => ?_⟩⟩
  have h := cell_blk (heap_new (w := w) (o := widO) rfl) j
  rw [Nat.zero_add]
  refine h.trans ?_
  match j, hj with
  | 0, _ => rfl
  | 1, _ => rfl
  | 2, _ => rfl
  | 3, _ => rfl
  | 4, _ => rfl
  | 5, _ => rfl
  | 6, _ => rfl
  | k + 7, h => exact absurd h (by simp [widN])
theorem width_Names (w : World) : Calls Tryz.prog 33 #[] w fun e w' => e = .returned (.slice (some ⟨w.heap.size, 0, none⟩) 7 7) ∧ Strs w' w'.heap.size (some ⟨w.heap.size, 0, none⟩) 7 widN ∧ Below w.heap.size w w' := by
  go_enter Tryz.func33, Tryz.ntmps33
  go_wp2_with fail
  go_ret
  exact ⟨rfl, widN_strs w, by go_grown⟩
theorem ref15_Names (w : World) : Calls Tryz.prog 34 #[] w fun e w' => e = .returned (.slice (some ⟨w.heap.size, 0, none⟩) 7 7) ∧ Strs w' w'.heap.size (some ⟨w.heap.size, 0, none⟩) 7 widN ∧ Below w.heap.size w w' := by
  go_enter Tryz.func34, Tryz.ntmps34
  go_wp2_with fail
  go_ret
  exact ⟨rfl, widN_strs w, by go_grown⟩
end Go.Vir


namespace Go.Vir
open Go

def segL : List Int → List (Int × Int)
  | [] => []
  | n :: t => (n, (t.head?.map (· - 1)).getD 1114111) :: segL t
def brkX : Int → List Rg → List Int
  | p, [] => if p = 1114112 then [] else [p]
  | p, x :: l => if p = x.f then p :: brkX (x.t + 1) l else p :: x.f :: brkX (x.t + 1) l
theorem brk_cons (p : Int) (x : Rg) (l : List Rg) : brkX p (x :: l) = if p = x.f then p :: brkX (x.t + 1) l else p :: x.f :: brkX (x.t + 1) l := by rw [brkX]
def saidL (L : List Rg) (l : List (Int × Int)) : List Rg := l.filterMap fun p => (findR L p.1).map fun v => { f := p.1, t := p.2, v := v }

theorem rise_ints_ext : ∀ {l m : List Int}, l.Pairwise (· < ·) → m.Pairwise (· < ·) → (∀ x, x ∈ l ↔ x ∈ m) → l = m
  | [], [], _, _, _ => rfl
  | [], y :: m, _, _, h => by have := (h y).2 (List.mem_cons_self ..); cases this
  | x :: l, [], _, _, h => by have := (h x).1 (List.mem_cons_self ..); cases this
  | x :: l, y :: m, hl, hm, h => by
    obtain ⟨hl1, hl2⟩ := List.pairwise_cons.1 hl
    obtain ⟨hm1, hm2⟩ := List.pairwise_cons.1 hm
    have hxy : x = y := by
      rcases List.mem_cons.1 ((h x).1 (List.mem_cons_self ..)) with e | hx
      · exact e
      · rcases List.mem_cons.1 ((h y).2 (List.mem_cons_self ..)) with e | hy
        · exact e.symm
        · have h1 := hm1 x hx
          have h2 := hl1 y hy
          omega
    subst hxy
    have : l = m := rise_ints_ext hl2 hm2 (fun z => ?_)
    · rw [this]
    · have hz := h z
      constructor
      · intro hzl
        rcases List.mem_cons.1 (hz.1 (List.mem_cons_of_mem _ hzl)) with e | e
        · have := hl1 z hzl; omega
        · exact e
      · intro hzm
        rcases List.mem_cons.1 (hz.2 (List.mem_cons_of_mem _ hzm)) with e | e
        · have := hm1 z hzm; omega
        · exact e

theorem brk_mem : ∀ {l : List Rg} {p : Int}, riseR (p - 1) l = true → ∀ y, y ∈ brkX p l ↔ y ≠ 1114112 ∧ (y = p ∨ ∃ x ∈ l, y = x.f ∨ y = x.t + 1)
  | [], p, _, y => by
    unfold brkX
    split
    · rename_i h
      constructor
      · intro hy; cases hy
      · rintro ⟨h1, h2 | ⟨x, hx, _⟩⟩
        · omega
        · cases hx
    · rename_i h
      simp only [List.mem_singleton, List.not_mem_nil, false_and, exists_false, or_false]
      constructor
      · rintro rfl; exact ⟨h, rfl⟩
      · exact fun hh => hh.2
  | x :: l, p, h, y => by
    simp only [riseR, Bool.and_eq_true, decide_eq_true_eq] at h
    have ho := oneR_iff.1 h.1
    have ih := brk_mem (l := l) (p := x.t + 1) (by rw [show x.t + 1 - 1 = x.t by omega]; exact h.2.2) y
    have hgo : y ∈ brkX p (x :: l) ↔ y = p ∨ y = x.f ∨ y ∈ brkX (x.t + 1) l := by
      rw [brk_cons]
      split
      · rename_i e
        rw [List.mem_cons]
        constructor
        · rintro (h | h)
          · exact .inl h
          · exact .inr (.inr h)
        · rintro (h | h | h)
          · exact .inl h
          · exact .inl (by rw [h, e])
          · exact .inr h
      · rw [List.mem_cons, List.mem_cons]
    rw [hgo, ih]
    constructor
    · rintro (rfl | rfl | ⟨h1, h2⟩)
      · exact ⟨by omega, .inl rfl⟩
      · exact ⟨by omega, .inr ⟨x, List.mem_cons_self .., .inl rfl⟩⟩
      · refine ⟨h1, ?_⟩
        rcases h2 with rfl | ⟨z, hz, hh⟩
        · exact .inr ⟨x, List.mem_cons_self .., .inr rfl⟩
        · exact .inr ⟨z, List.mem_cons_of_mem _ hz, hh⟩
    · rintro ⟨h1, rfl | ⟨z, hz, hh⟩⟩
      · exact .inl rfl
      · rcases List.mem_cons.1 hz with rfl | hz
        · rcases hh with rfl | rfl
          · exact .inr (.inl rfl)
          · exact .inr (.inr ⟨h1, .inl rfl⟩)
        · exact .inr (.inr ⟨h1, .inr ⟨z, hz, hh⟩⟩)
theorem brk_ge : ∀ {l : List Rg} {p : Int}, riseR (p - 1) l = true → ∀ y ∈ brkX p l, p ≤ y := by
  intro l p h y hy
  obtain ⟨_, h2⟩ := (brk_mem h y).1 hy
  rcases h2 with rfl | ⟨x, hx, hh⟩
  · omega
  · have h1 := rise_one h x hx
    have h3 := oneR_iff.1 h1.1
    rcases hh with rfl | rfl <;> omega
theorem brk_rise : ∀ {l : List Rg} {p : Int}, riseR (p - 1) l = true → (brkX p l).Pairwise (· < ·)
  | [], p, _ => by unfold brkX; split <;> simp
  | x :: l, p, h => by
    simp only [riseR, Bool.and_eq_true, decide_eq_true_eq] at h
    have ho := oneR_iff.1 h.1
    have hr : riseR (x.t + 1 - 1) l = true := by rw [show x.t + 1 - 1 = x.t by omega]; exact h.2.2
    have ih := brk_rise hr
    have hge := brk_ge hr
    rw [brk_cons]
    split
    · rename_i e
      exact List.pairwise_cons.2 ⟨fun y hy => by have := hge y hy; omega, ih⟩
    · refine List.pairwise_cons.2 ⟨fun y hy => ?_, List.pairwise_cons.2 ⟨fun y hy => by have := hge y hy; omega, ih⟩⟩
      rcases List.mem_cons.1 hy with rfl | hy
      · omega
      · have := hge y hy; omega
theorem brk_head {l : List Rg} {p : Int} (h : riseR (p - 1) l = true) : ((brkX p l).head?.map (· - 1)).getD 1114111 = p - 1 := by
  cases l with
  | nil =>
    unfold brkX
    split
    · rename_i e; subst e; rfl
    · rfl
  | cons x l => rw [brk_cons]; split <;> rfl
theorem seg_said (L : List Rg) (hL : riseR (-1) L = true) : ∀ (l dn : List Rg) (p : Int), L = dn ++ l → (∀ x ∈ dn, x.t < p) → riseR (p - 1) l = true → saidL L (segL (brkX p l)) = l
  | [], dn, p, e, hd, _ => by
    unfold brkX
    split
    · rfl
    · have : findR L p = none := find_none.2 fun x hx => by
        rw [e, List.append_nil] at hx
        have := hd x hx; omega
      simp [segL, saidL, this]
  | x :: l, dn, p, e, hd, h => by
    simp only [riseR, Bool.and_eq_true, decide_eq_true_eq] at h
    have ho := oneR_iff.1 h.1
    have hr : riseR (x.t + 1 - 1) l = true := by rw [show x.t + 1 - 1 = x.t by omega]; exact h.2.2
    have ih := seg_said L hL l (dn ++ [x]) (x.t + 1) (by rw [e]; simp) (fun y hy => by
      rcases List.mem_append.1 hy with hy | hy
      · have := hd y hy; omega
      · simp only [List.mem_singleton] at hy; subst hy; omega) hr
    have hh := brk_head hr
    have hx : findR L x.f = some x.v := (find_rise hL).2 ⟨x, by rw [e]; simp, by omega, by omega, rfl⟩
    have hone : saidL L (segL (x.f :: brkX (x.t + 1) l)) = x :: l := by
      unfold segL
      rw [hh]
      unfold saidL at ih ⊢
      rw [List.filterMap_cons]
      simp only [hx, Option.map_some]
      rw [ih]
      have : ({ f := x.f, t := x.t + 1 - 1, v := x.v } : Rg) = x := by
        rw [show x.t + 1 - 1 = x.t by omega]
      rw [this]
    rw [brk_cons]
    split
    · rename_i e2; rw [e2]; exact hone
    · rename_i e2
      have hn : findR L p = none := find_none.2 fun y hy => by
        rw [e] at hy
        rcases List.mem_append.1 hy with hy | hy
        · have := hd y hy; omega
        · rcases List.mem_cons.1 hy with rfl | hy
          · omega
          · have := (rise_one h.2.2 y hy).2; omega
      rw [segL]
      unfold saidL at hone ⊢
      rw [List.filterMap_cons]
      simp only [hn, Option.map_none]
      exact hone
theorem turns_said {L : List Rg} (h : riseR (-1) L = true) {ks : List Int} (hs : ks.Pairwise (· < ·)) (hm : ∀ y, y ∈ ks ↔ y ≠ 1114112 ∧ (y = 0 ∨ ∃ x ∈ L, y = x.f ∨ y = x.t + 1)) : saidL L (segL ks) = L := by
  have hr : riseR (0 - 1) L = true := h
  have : ks = brkX 0 L := rise_ints_ext hs (brk_rise hr) (fun y => (hm y).trans (brk_mem hr y).symm)
  rw [this]
  exact seg_said L h L [] 0 rfl (by simp) hr
end Go.Vir


namespace Go.Vir
open Go Go.Lib

def evP (ss : List (List UInt8)) (k : Nat) (loose : Bool) : List RecV → List (RecV × Option Int)
  | [] => []
  | x :: l => match saysB ss k x with
    | none => if loose then evP ss k loose l else (x, none) :: evP ss k loose l
    | some v => (x, some v) :: evP ss k loose l
theorem evP_cons (ss : List (List UInt8)) (k : Nat) (loose : Bool) (x : RecV) (l : List RecV) : evP ss k loose (x :: l) = match saysB ss k x with
    | none => if loose then evP ss k loose l else (x, none) :: evP ss k loose l
    | some v => (x, some v) :: evP ss k loose l := by rw [evP]
def readsE : List (RecV × Option Int) → List Rg → List Rg ⊕ (Int × Int)
  | [], out => .inl out
  | (x, none) :: _, _ => .inr (x.line, 40)
  | (x, some v) :: es, out => if out.any (lapR (rgOf x v)) then .inr (x.line, 30) else readsE es (out ++ [rgOf x v])
theorem readsE_none (x : RecV) (es : List (RecV × Option Int)) (out : List Rg) : readsE ((x, none) :: es) out = .inr (x.line, 40) := by rw [readsE]
theorem readsE_some (x : RecV) (v : Int) (es : List (RecV × Option Int)) (out : List Rg) : readsE ((x, some v) :: es) out = if out.any (lapR (rgOf x v)) then .inr (x.line, 30) else readsE es (out ++ [rgOf x v]) := by rw [readsE]
theorem reads_evs (ss : List (List UInt8)) (k : Nat) (loose : Bool) : ∀ (l : List RecV) (out : List Rg), readsB ss k loose l out = readsE (evP ss k loose l) out
  | [], _ => rfl
  | x :: l, out => by
    rw [readsB_cons, evP_cons]
    cases saysB ss k x with
    | none =>
      cases loose with
      | true => simp only [if_true]; exact reads_evs ss k true l out
      | false => simp only [Bool.false_eq_true, if_false, readsE_none]
    | some v =>
      simp only [readsE_some]
      split
      · rfl
      · exact reads_evs ss k loose l _
theorem laps_eq {y : Rg} (hy : y.f ≤ y.t) (x : Rg) : (decide (x = y) || (decide (x.f ≤ y.t) && decide (y.f ≤ x.t))) = lapR y x := by
  rw [Bool.eq_iff_iff]
  simp only [Bool.or_eq_true, Bool.and_eq_true, decide_eq_true_eq, lapR_iff]
  constructor
  · rintro (rfl | ⟨h1, h2⟩)
    · exact ⟨hy, hy⟩
    · exact ⟨h2, h1⟩
  · rintro ⟨h1, h2⟩
    exact .inr ⟨h2, h1⟩
theorem tight_said {m : List Rg} (h : riseR (-1) m = true) {ks : List Int} (hs : ks.Pairwise (· < ·)) (hm : ∀ y, y ∈ ks ↔ y ≠ 1114112 ∧ (y = 0 ∨ ∃ x ∈ m, y = x.f ∨ y = x.t + 1)) : (saidL m (segL ks)).foldl addR [] = tightR m := by
  rw [turns_said h hs hm]; rfl
end Go.Vir


namespace Go.Vir
open Go Go.RowKit Go.Proofs Go.Shelf
attribute [local go_sem] Oper.semAt_some

theorem look_names {w : World} {r ck : Nat} {es : Array MapEntry} {ss : List (List UInt8)} (x : List UInt8) (hr : w.heap[r]? = some (.map es ck)) (ha : Asc es (kvOf ss 0)) :
    (Instr.lookup 70 (.map (some r)) (.string ⟨x.toArray⟩) true).run Tryz.prog w = .ok (.tuple #[.int .i64 ((valB x ss 0).getD 0), .bool (valB x ss 0).isSome]) w := by
  have h := run_look_kv (P := Tryz.prog) (k := x) true Tryz.underlying70 Tryz.underlying9 (Tryz.zeroValue3 w) hr ha
  have h1 := look_val x (kvOf ss 0) 0
  rw [valKV_kvOf] at h1
  have h2 : (lookKV x (kvOf ss 0) 0).isSome = (valB x ss 0).isSome := by rw [← h1]; cases lookKV x (kvOf ss 0) 0 <;> rfl
  rw [h1, h2] at h
  exact h

theorem names_value (A : Option Addr) (n c r ck : Nat) (es : Array MapEntry) (ss : List (List UInt8)) (x : List UInt8) (w : World) (hr : w.heap[r]? = some (.map es ck)) (ha : Asc es (kvOf ss 0)) :
    Calls Tryz.prog 53 #[.agg #[.slice A n c, .map (some r)], .string ⟨x.toArray⟩] w fun e w' => e = .returned (.tuple #[.int .i64 ((valB x ss 0).getD 0), .bool (valB x ss 0).isSome]) ∧ Below w.heap.size w w' := by
  have hrl : r < w.heap.size := (Array.getElem?_eq_some_iff.1 hr).1
  have hlk := look_names x (w := w.alloc (.cells #[.slice A n c, .map (some r)] 72)) ((heap_old hrl).trans hr) ha
  generalize (valB x ss 0).getD 0 = v at *
  generalize (valB x ss 0).isSome = o at *
  clear hr ha
  go_enter Tryz.func53, Tryz.ntmps53
  go_wp2_with fail
  go_ret2
  exact ⟨rfl, by go_grown⟩

set_option maxHeartbeats 1000000 in
theorem laps1 (y x : Rg) (b : Nat) (w : World) (hy : y.f ≤ y.t) (hb : w.heap[b]? = some (.cells #[.int .i64 y.f, .int .i64 y.t, .int .i64 y.v] 65 (0, 0))) :
    Calls Tryz.prog 152 #[encR x, .pointer (some ⟨b, 0, none⟩)] w fun e w' => e = .returned (.bool (lapR y x)) ∧ Below w.heap.size w w' := by
  have hq := fun w => rg_eql x y w
  have u0 : w.cell? ⟨b, 0, none⟩ = some (.int .i64 y.f) := cell_blk hb 0
  have u1 : w.cell? ⟨b, 1, none⟩ = some (.int .i64 y.t) := cell_blk hb 1
  have u2 : w.cell? ⟨b, 2, none⟩ = some (.int .i64 y.v) := cell_blk hb 2
  have hbl : b < w.heap.size := (Array.getElem?_eq_some_iff.1 hb).1
  rw [← laps_eq hy x]
  obtain ⟨f, t, v⟩ := x
  obtain ⟨f2, t2, v2⟩ := y
  simp only [encR] at *
  clear hb hy
  rcases hE : decide (({ f := f, t := t, v := v } : Rg) = { f := f2, t := t2, v := v2 }) with _ | _
  · rw [hE] at hq
    by_cases h1 : f ≤ t2
    · have h2 : decide (f ≤ t2) = true := decide_eq_true h1
      clear hE
      go_enter Tryz.func152, Tryz.ntmps152
      go_wp2_with fail
      go_ret
      exact ⟨ret_bool (by simp [h1]), by go_grown⟩
    · have h2 : decide (f ≤ t2) = false := decide_eq_false h1
      clear hE
      go_enter Tryz.func152, Tryz.ntmps152
      go_wp2_with fail
      go_ret
      exact ⟨ret_bool (by simp), by go_grown⟩
  · rw [hE] at hq
    clear hE
    go_enter Tryz.func152, Tryz.ntmps152
    go_wp2_with fail
    go_ret
    exact ⟨ret_bool (by simp), by go_grown⟩

theorem reader_laps (R : Nat) (A : Option Addr) (n c : Nat) (l : List Rg) (y : Rg) (w : World) (hy : y.f ≤ y.t) (hR : w.cell? ⟨R, 4, none⟩ = some (.slice A n c)) (hRl : R < w.heap.size) (hx : Rgs w w.heap.size A n l) (hn : n ≤ 1000000) :
    Calls Tryz.prog 126 #[.pointer (some ⟨R, 0, none⟩), .agg #[.int .i64 y.f, .int .i64 y.t, .int .i64 y.v]] w fun e w' => e = .returned (.bool (l.any (lapR y))) ∧ Below w.heap.size w w' := by
  have hw : Below w.heap.size w (w.alloc (.cells #[.int .i64 y.f, .int .i64 y.t, .int .i64 y.v] 65)) := by go_grown
  have hcon := containsFunc_rg (p := lapR y) (lb := #[.pointer (some ⟨w.heap.size, 0, none⟩)]) A n c l (w.alloc (.cells #[.int .i64 y.f, .int .i64 y.t, .int .i64 y.v] 65)) (enters_of Tryz.func152 (by kernel_rfl) rfl)
    ((hx.below hw).more hw.size) (fun x W hW => laps1 y x w.heap.size W hy ((hW.block _ (by simp)).trans (heap_new rfl))) hn
  generalize l.any (lapR y) = V at *
  obtain ⟨f, t, v⟩ := y
  simp only at *
  have Hcon := Lib.hid hcon
  clear hcon hw hx hy
  go_enter Tryz.func126, Tryz.ntmps126
  go_wp2_with fail
  refine Hcon.out.mono ?_
  rintro e w1 ⟨rfl, hb1⟩
  go_wp2_with fail
  go_ret
  exact ⟨rfl, Below.trans (by go_grown) (hb1.mono (by simp))⟩
end Go.Vir


namespace Go.Vir
open Go Go.RowKit Go.Proofs Go.Shelf
attribute [local go_sem] Oper.semAt_some

def digK : KI := [(48, 0), (49, 1), (50, 2), (51, 3), (52, 4), (53, 5), (54, 6), (55, 7), (56, 8), (57, 9), (97, 10), (98, 11), (99, 12), (100, 13), (101, 14), (102, 15), (65, 10), (66, 11), (67, 12), (68, 13), (69, 14), (70, 15)]
def digI (r : Int) : Option Int := if 48 ≤ r ∧ r ≤ 57 then some (r - 48) else if 97 ≤ r ∧ r ≤ 102 then some (r - 87) else if 65 ≤ r ∧ r ≤ 70 then some (r - 55) else none
theorem digK_val (r : Int) : valI r digK = digI r := by
  unfold digI
  split
  · rename_i h
    rcases (by omega : r = 48 ∨ r = 49 ∨ r = 50 ∨ r = 51 ∨ r = 52 ∨ r = 53 ∨ r = 54 ∨ r = 55 ∨ r = 56 ∨ r = 57) with rfl | rfl | rfl | rfl | rfl | rfl | rfl | rfl | rfl | rfl <;> decide
  · split
    · rename_i h
      rcases (by omega : r = 97 ∨ r = 98 ∨ r = 99 ∨ r = 100 ∨ r = 101 ∨ r = 102) with rfl | rfl | rfl | rfl | rfl | rfl <;> decide
    · split
      · rename_i h
        rcases (by omega : r = 65 ∨ r = 66 ∨ r = 67 ∨ r = 68 ∨ r = 69 ∨ r = 70) with rfl | rfl | rfl | rfl | rfl | rfl <;> decide
      · unfold digK
        repeat (unfold valI; rw [if_neg (by show ¬ (_ : Int) = r; omega)])
        rfl
theorem digI_byte (b : UInt8) : digI (b.toNat : Int) = (digN b).map fun (d : Nat) => (d : Int) := by
  unfold digI digN
  by_cases h1 : 48 ≤ b.toNat ∧ b.toNat ≤ 57
  · rw [if_pos (by omega), if_pos h1, Option.map_some]; congr 1; omega
  · rw [if_neg (by omega), if_neg h1]
    by_cases h2 : 97 ≤ b.toNat ∧ b.toNat ≤ 102
    · rw [if_pos (by omega), if_pos h2, Option.map_some]; congr 1; omega
    · rw [if_neg (by omega), if_neg h2]
      by_cases h3 : 65 ≤ b.toNat ∧ b.toNat ≤ 70
      · rw [if_pos (by omega), if_pos h3, Option.map_some]; congr 1; omega
      · rw [if_neg (by omega), if_neg h3]; rfl

def digS1 : ByteArray := ⟨#[48, 49, 50, 51, 52, 53, 54, 55, 56, 57, 97, 98, 99, 100, 101, 102]⟩
def digS2 : ByteArray := ⟨#[65, 66, 67, 68, 69, 70]⟩
theorem dig_next1 : ∀ k : Nat, k < 16 → ∃ h : k < digS1.size, (digS1[k]'h).toNat < 128 ∧ ∃ x, digK[k]? = some x ∧ x.1 = ((digS1[k]'h).toNat : Int) ∧ x.2 = (k : Int) ∧ digK.take (k + 1) = digK.take k ++ [x] ∧ updI x.1 x.2 (digK.take k) = digK.take k ++ [x] := by
  intro k hk
  rcases (by omega : k = 0 ∨ k = 1 ∨ k = 2 ∨ k = 3 ∨ k = 4 ∨ k = 5 ∨ k = 6 ∨ k = 7 ∨ k = 8 ∨ k = 9 ∨ k = 10 ∨ k = 11 ∨ k = 12 ∨ k = 13 ∨ k = 14 ∨ k = 15) with rfl | rfl | rfl | rfl | rfl | rfl | rfl | rfl | rfl | rfl | rfl | rfl | rfl | rfl | rfl | rfl <;> exact ⟨by decide, by decide, _, rfl, by decide, by decide, by decide, by decide⟩
theorem dig_next2 : ∀ k : Nat, k < 6 → ∃ h : k < digS2.size, (digS2[k]'h).toNat < 128 ∧ ∃ x, digK[16 + k]? = some x ∧ x.1 = ((digS2[k]'h).toNat : Int) ∧ x.2 = (k : Int) + 10 ∧ digK.take (16 + k + 1) = digK.take (16 + k) ++ [x] ∧ updI x.1 x.2 (digK.take (16 + k)) = digK.take (16 + k) ++ [x] := by
  intro k hk
  rcases (by omega : k = 0 ∨ k = 1 ∨ k = 2 ∨ k = 3 ∨ k = 4 ∨ k = 5) with rfl | rfl | rfl | rfl | rfl | rfl <;> exact ⟨by decide, by decide, _, rfl, by decide, by decide, by decide, by decide⟩

def DigRel (m q n : Nat) (S : ByteArray) (w : World) (k0 : Nat) (wr : World) : Prop := ∃ (k : Nat) (es : Array MapEntry) (ck : Nat), k ≤ n ∧ AscI .i32 es (digK.take (k0 + k)) ∧ wr.heap[m]? = some (.map es ck) ∧ wr.heap[q]? = some (.stringIter S k) ∧ Below m w wr

set_option maxHeartbeats 1600000 in
theorem field_digits (w : World) : Calls Tryz.prog 228 #[] w fun e w' => (∃ b es ck, e = .returned (.map (some b)) ∧ w'.heap[b]? = some (.map es ck) ∧ AscI .i32 es digK) ∧ Below w.heap.size w w' := by
  have hS1 : digS1.size = 16 := by decide
  have hS2 : digS2.size = 6 := by decide
  have e1 : (⟨#[48, 49, 50, 51, 52, 53, 54, 55, 56, 57, 97, 98, 99, 100, 101, 102]⟩ : ByteArray) = digS1 := rfl
  have e2 : (⟨#[65, 66, 67, 68, 69, 70]⟩ : ByteArray) = digS2 := rfl
  have hmm := @run_makeMap Tryz.prog
  go_enter Tryz.func228, Tryz.ntmps228
  go_wp2
  go_loopw [] (fun wr => DigRel w.heap.size (w.heap.size + 1) 16 digS1 w 0 wr) (fun wr => 16 - wr.iterPos (w.heap.size + 1))
  case atStart =>
    refine ⟨0, #[], 0, Nat.zero_le _, rfl, ?_, ?_, ((Below.refl _ w).alloc (Nat.le_refl _) _).alloc (by simp) _⟩
    · exact (heap_old (by simp)).trans (heap_new rfl)
    · have := World.iter_heap (w.alloc (.map #[] 0)) digS1 0
      simp only [World.size_alloc] at this
      exact this
  case round =>
    obtain ⟨k, es, ck, hk, ha, hm, hit, hbr⟩ := hrel
    rcases Nat.lt_or_ge k 16 with hlt | hge
    · obtain ⟨hks, h128, x, hx0, hx1, hx2, htk, hup⟩ := dig_next1 k hlt
      have hnx : ∀ ty, (Instr.next (.pointer (some ⟨w.heap.size + 1, 0, none⟩)) true ty).run Tryz.prog wr = .ok (.tuple #[.bool true, .int .i64 (k : Int), .int .i32 x.1]) (wr.iterAt (w.heap.size + 1) digS1 (k + 1)) := fun ty => by
        rw [Lib.run_next_any_at wr (w.heap.size + 1) digS1 k ty hit hks, decode_ascii digS1 k hks h128, hx1]
      have hit2 := Lib.iterAt_heap wr (w.heap.size + 1) digS1 k (k + 1) hit
      have hm2 := (Lib.iterAt_other wr (w.heap.size + 1) w.heap.size digS1 (k + 1) (by omega)).trans hm
      have hb2 := Lib.below_iterAt hbr (k := w.heap.size + 1) (by omega) digS1 (k + 1)
      have Hit := Lib.hid hit
      have Hit2 := Lib.hid hit2
      rw [Nat.zero_add] at ha
      have Ha := Lib.hid ha
      have Hup := Lib.hid (hup.trans htk.symm)
      have Hm2 := Lib.hid hm2
      obtain ⟨x1, x2⟩ := x
      simp only at hnx hx2
      subst hx2
      clear hit hit2 hm ha hx0 hx1 htk hup hbr hm2
      generalize wr.iterAt (w.heap.size + 1) digS1 (k + 1) = Wi at *
      go_wp2_with (at_mapUpdate; refine wpList_upd_ki rfl rfl rfl rfl rfl Tryz.underlying156 Tryz.underlying21 Hm2.out Ha.out ?_; intro es2 ck2 ha2)
      go_roundw
      case rel =>
        rw [Hup.out] at ha2
        refine ⟨k + 1, es2, ck2, by omega, by rw [Nat.zero_add]; exact ha2, ?_, ?_, ?_⟩
        · exact World.putObj_heap_same (Array.getElem?_eq_some_iff.1 Hm2.out).1
        · exact (World.putObj_heap_other (by omega)).trans Hit2.out
        · exact ⟨hb2.os, hb2.tape, hb2.output, by simpa using hb2.size, fun j hj => (World.putObj_heap_other (by omega)).trans (hb2.block j hj)⟩
      case measure =>
        simp only [World.iterPos, (World.putObj_heap_other (show w.heap.size + 1 ≠ w.heap.size by omega)).trans Hit2.out, Hit.out]
        omega
    · have hk16 : k = 16 := by omega
      subst hk16
      have hnx : ∀ ty, (Instr.next (.pointer (some ⟨w.heap.size + 1, 0, none⟩)) true ty).run Tryz.prog wr = .ok (.tuple #[.bool false]) wr := fun ty => Lib.run_next_end_at wr (w.heap.size + 1) digS1 16 ty hit (by rw [hS1]; omega)
      have Ha := Lib.hid ha
      have hb1 := hbr.alloc hbr.size (.stringIter digS2 0)
      have hsz : w.heap.size + 1 < wr.heap.size := (Array.getElem?_eq_some_iff.1 hit).1
      obtain ⟨wo, hwo⟩ : ∃ wo : World, wo = wr := ⟨_, rfl⟩
      clear ha
      go_wp2
      subst hwo
      obtain ⟨q, hq⟩ : ∃ q, q = wo.heap.size := ⟨_, rfl⟩
      go_loopw [] (fun wr => DigRel w.heap.size wo.heap.size 6 digS2 w 16 wr) (fun wr => 6 - wr.iterPos wo.heap.size)
      case atStart =>
        refine ⟨0, es, ck, Nat.zero_le _, Ha.out, ?_, ?_, hb1⟩
        · exact (heap_old (by omega)).trans hm
        · exact World.iter_heap wo digS2 0
      case round =>
        obtain ⟨k, es, ck, hk, ha, hm, hit, hbr⟩ := hrel
        rcases Nat.lt_or_ge k 6 with hlt | hge
        · obtain ⟨hks, h128, x, hx0, hx1, hx2, htk, hup⟩ := dig_next2 k hlt
          have hnx : ∀ ty, (Instr.next (.pointer (some ⟨wo.heap.size, 0, none⟩)) true ty).run Tryz.prog wr = .ok (.tuple #[.bool true, .int .i64 (k : Int), .int .i32 x.1]) (wr.iterAt wo.heap.size digS2 (k + 1)) := fun ty => by
            rw [Lib.run_next_any_at wr wo.heap.size digS2 k ty hit hks, decode_ascii digS2 k hks h128, hx1]
          have hit2 := Lib.iterAt_heap wr wo.heap.size digS2 k (k + 1) hit
          have hm2 := (Lib.iterAt_other wr wo.heap.size w.heap.size digS2 (k + 1) (by omega)).trans hm
          have hb2 := Lib.below_iterAt hbr (k := wo.heap.size) (by omega) digS2 (k + 1)
          have Hit := Lib.hid hit
          have Hit2 := Lib.hid hit2
          have Ha := Lib.hid ha
          have Hup := Lib.hid (hup.trans htk.symm)
          have Hm2 := Lib.hid hm2
          obtain ⟨x1, x2⟩ := x
          simp only at hnx hx2
          subst hx2
          clear hit hit2 hm ha hx0 hx1 htk hup hbr hm2
          generalize wr.iterAt wo.heap.size digS2 (k + 1) = Wi at *
          go_wp2_with (at_mapUpdate; refine wpList_upd_ki rfl rfl rfl rfl rfl Tryz.underlying156 Tryz.underlying21 Hm2.out Ha.out ?_; intro es2 ck2 ha2)
          go_roundw
          case rel =>
            rw [Hup.out] at ha2
            refine ⟨k + 1, es2, ck2, by omega, ha2, ?_, ?_, ?_⟩
            · exact World.putObj_heap_same (Array.getElem?_eq_some_iff.1 Hm2.out).1
            · exact (World.putObj_heap_other (by omega)).trans Hit2.out
            · exact ⟨hb2.os, hb2.tape, hb2.output, by simpa using hb2.size, fun j hj => (World.putObj_heap_other (by omega)).trans (hb2.block j hj)⟩
          case measure =>
            simp only [World.iterPos, (World.putObj_heap_other (show wo.heap.size ≠ w.heap.size by omega)).trans Hit2.out, Hit.out]
            omega
        · have hk6 : k = 6 := by omega
          subst hk6
          have hnx : ∀ ty, (Instr.next (.pointer (some ⟨wo.heap.size, 0, none⟩)) true ty).run Tryz.prog wr = .ok (.tuple #[.bool false]) wr := fun ty => Lib.run_next_end_at wr wo.heap.size digS2 6 ty hit (by rw [hS2]; omega)
          have Ha := Lib.hid ha
          have Hm := Lib.hid hm
          clear ha hm hit
          go_wp2
          go_ret
          exact ⟨⟨w.heap.size, es, ck, rfl, Hm.out, Ha.out⟩, hbr⟩
end Go.Vir


namespace Go.Vir
open Go Go.RowKit Go.Proofs Go.Shelf
attribute [local go_sem] Oper.semAt_some

def codeI (s : List UInt8) : Int := (((codeN s).getD 0 : Nat) : Int)
def CodeRel (w1 : World) (s : List UInt8) (v : Value) (wr : World) : Prop := ∃ pos n : Nat, pos ≤ s.length ∧ v = .int .i64 (n : Int) ∧ digsN (s.drop pos) n = digsN s 0 ∧ n < 16 ^ pos ∧ wr = w1.iter ⟨s.toArray⟩ pos
theorem digs_step {s : List UInt8} {pos n : Nat} (h : pos < s.length) (hd : digsN (s.drop pos) n = digsN s 0) : digsN s 0 = match digN s[pos] with | some d => digsN (s.drop (pos + 1)) (16 * n + d) | none => none := by
  rw [← hd, List.drop_eq_getElem_cons h]
  rfl
theorem pow_five {n pos : Nat} (h : n < 16 ^ pos) (hp : pos < 6) : n < 1048576 := by
  have : 16 ^ pos ≤ 16 ^ 5 := Nat.pow_le_pow_right (by decide) (by omega)
  omega
theorem pow_next {n pos d : Nat} (h : n < 16 ^ pos) (hd : d < 16) : 16 * n + d < 16 ^ (pos + 1) := by
  rw [Nat.pow_succ]; omega
theorem code_long {s : List UInt8} (h : s.length < 4 ∨ 6 < s.length) : codeI s = 0 ∧ (codeN s).isSome = false := by
  unfold codeI codeN; rw [if_pos h]; exact ⟨rfl, rfl⟩
theorem code_digs {s : List UInt8} (h : ¬ (s.length < 4 ∨ 6 < s.length)) : codeN s = digsN s 0 := by unfold codeN; rw [if_neg h]
theorem run_dig {w1 : World} {S : ByteArray} {bm : Nat} {es : Array MapEntry} {ck : Nat} (hm : w1.heap[bm]? = some (.map es ck)) (ha : AscI .i32 es digK) (c : Int) (p : Nat) :
    (Instr.lookup 156 (.map (some bm)) (.int .i32 c) true).run Tryz.prog (w1.iter S p) = .ok (.tuple #[.int .i64 ((digI c).getD 0), .bool (digI c).isSome]) (w1.iter S p) := by
  have h := run_look_ki (P := Tryz.prog) (w := w1.iter S p) (k := c) true Tryz.underlying156 Tryz.underlying21 (Tryz.zeroValue3 _) ((heap_old (Array.getElem?_eq_some_iff.1 hm).1).trans hm) ha
  have e1 : (lookI c digK 0).isSome = (digI c).isSome := by rw [← digK_val, ← look_valI c digK 0, Option.isSome_map]
  have e2 : (lookI c digK 0).map (·.2) = digI c := by rw [look_valI, digK_val]
  rw [e1, e2] at h
  exact h

set_option maxRecDepth 100000 in
set_option maxHeartbeats 1600000 in
theorem field_Code (s : List UInt8) (w : World) (hs : s.length ≤ 9223372036854775807) :
    Calls Tryz.prog 206 #[.string ⟨s.toArray⟩] w fun e w' => e = .returned (.tuple #[.int .i64 (codeI s), .bool (codeN s).isSome]) ∧ Below w.heap.size w w' := by
  by_cases hlen : s.length < 4 ∨ 6 < s.length
  · obtain ⟨h1, h2⟩ := code_long hlen
    rw [h1, h2]
    clear h1 h2
    rcases (by omega : s.length < 4 ∨ (¬ s.length < 4 ∧ 6 < s.length)) with h | ⟨h, h'⟩
    · go_enter Tryz.func206, Tryz.ntmps206
      go_wp2
      go_ret2
      exact ⟨rfl, Below.refl _ _⟩
    · go_enter Tryz.func206, Tryz.ntmps206
      go_wp2
      go_ret2
      exact ⟨rfl, Below.refl _ _⟩
  · have hc := code_digs hlen
    have hci : codeI s = (((digsN s 0).getD 0 : Nat) : Int) := by unfold codeI; rw [hc]
    rw [hc, hci]
    have h4 : ¬ s.length < 4 := by omega
    have h6 : ¬ 6 < s.length := by omega
    obtain ⟨R, hR⟩ : ∃ R, digsN s 0 = R := ⟨_, rfl⟩
    rw [hR]
    have HR := Lib.hid hR
    have hsz : (⟨s.toArray⟩ : ByteArray).size = s.length := by have := Lib.size_eq ⟨s.toArray⟩; simpa using this
    have Hsz := Lib.hid hsz
    clear hc hci hlen hR hsz
    go_enter Tryz.func206, Tryz.ntmps206
    go_wp2_with fail
    refine (field_digits _).mono ?_
    rintro e w1 ⟨⟨bm, es, ck, rfl, hm, ha⟩, hb1⟩
    have hlk := fun c p => run_dig (S := ⟨s.toArray⟩) hm ha c p
    have Hlk := Lib.hid hlk
    clear hlk ha hm
    go_wp2_with fail
    go_loopw [5] (fun v wr => CodeRel w1 s v wr) (fun _ wr => s.length - wr.iterPos w1.heap.size)
    case atStart => exact ⟨0, 0, Nat.zero_le _, rfl, rfl, by simp, rfl⟩
    case round =>
      obtain ⟨pos, n, hpos, rfl, hd, hn, rfl⟩ := hrel
      rcases Nat.lt_or_ge pos s.length with hlt | hge
      · have hlt' : pos < (⟨s.toArray⟩ : ByteArray).size := by rw [Hsz.out]; exact hlt
        have hst := digs_step hlt hd
        have hn5 := pow_five hn (by omega)
        have hx0 : (((⟨s.toArray⟩ : ByteArray)[pos]'hlt').toNat : Int) = (s[pos].toNat : Int) := rfl
        rcases Nat.lt_or_ge s[pos].toNat 128 with h128 | h128
        · have hnx : ∀ ty, (Instr.next (.pointer (some ⟨w1.heap.size, 0, none⟩)) true ty).run Tryz.prog (w1.iter ⟨s.toArray⟩ pos) = .ok (.tuple #[.bool true, .int .i64 (pos : Int), .int .i32 (s[pos].toNat : Int)]) (w1.iter ⟨s.toArray⟩ (pos + 1)) := fun ty => by
            rw [run_next_any w1 ⟨s.toArray⟩ pos ty hlt', decode_ascii ⟨s.toArray⟩ pos hlt' h128]; rfl
          have hlk := Hlk.out (s[pos].toNat : Int) (pos + 1)
          have hdb := digI_byte s[pos]
          rcases hdn : digN s[pos] with _ | d
          · rw [hdn] at hst hdb
            simp only [Option.map_none] at hdb
            rw [hdb] at hlk
            simp only [Option.getD_none, Option.isSome_none] at hlk
            have hfin : R = none := by rw [← HR.out, hst]
            have Hf := Lib.hid hfin
            clear hst hdb hdn hd hn hfin
            go_wp2_with fail
            go_ret2
            exact ⟨by rw [Hf.out]; rfl, hb1.trans ((Below.refl _ _).alloc hb1.size _)⟩
          · rw [hdn] at hst hdb
            simp only [Option.map_some] at hdb
            rw [hdb] at hlk
            simp only [Option.getD_some, Option.isSome_some] at hlk
            have hd16 := digN_lt hdn
            have hn' := pow_next hn hd16
            have Hn' := Lib.hid hn'
            have Hst := Lib.hid hst
            clear hst hdb hdn hd hn hn'
            go_wp2_with fail
            go_roundw
            case rel => exact ⟨pos + 1, 16 * n + d, by omega, by congr 1; omega, Hst.out.symm, Hn'.out, rfl⟩
            case measure => simp; omega
        · have hcn := decode_high ⟨s.toArray⟩ pos hlt' h128
          have hdn : digN s[pos] = none := by
            unfold digN
            rw [if_neg (by omega), if_neg (by omega), if_neg (by omega)]
          rw [hdn] at hst
          have hdi : digI (((Utf8.decode ⟨s.toArray⟩ pos).1 : Nat) : Int) = none := by
            have := hcn.1
            unfold digI
            rw [if_neg (by omega), if_neg (by omega), if_neg (by omega)]
          have hnx : ∀ ty, (Instr.next (.pointer (some ⟨w1.heap.size, 0, none⟩)) true ty).run Tryz.prog (w1.iter ⟨s.toArray⟩ pos) = .ok (.tuple #[.bool true, .int .i64 (pos : Int), .int .i32 (((Utf8.decode ⟨s.toArray⟩ pos).1 : Nat) : Int)]) (w1.iter ⟨s.toArray⟩ (pos + (Utf8.decode ⟨s.toArray⟩ pos).2)) := fun ty => run_next_any w1 ⟨s.toArray⟩ pos ty hlt'
          have hlk := Hlk.out (((Utf8.decode ⟨s.toArray⟩ pos).1 : Nat) : Int) (pos + (Utf8.decode ⟨s.toArray⟩ pos).2)
          rw [hdi] at hlk
          simp only [Option.getD_none, Option.isSome_none] at hlk
          have hfin : R = none := by rw [← HR.out, hst]
          have Hf := Lib.hid hfin
          clear hst hdn hd hn hfin hcn hdi
          generalize (Utf8.decode ⟨s.toArray⟩ pos).1 = c at *
          generalize (Utf8.decode ⟨s.toArray⟩ pos).2 = wd at *
          go_wp2_with fail
          go_ret2
          exact ⟨by rw [Hf.out]; rfl, hb1.trans ((Below.refl _ _).alloc hb1.size _)⟩
      · have hnx : ∀ ty, (Instr.next (.pointer (some ⟨w1.heap.size, 0, none⟩)) true ty).run Tryz.prog (w1.iter ⟨s.toArray⟩ pos) = .ok (.tuple #[.bool false]) (w1.iter ⟨s.toArray⟩ pos) := fun ty => run_next_end w1 ⟨s.toArray⟩ pos ty (by rw [Hsz.out]; omega)
        have hfin : R = some n := by rw [← HR.out, ← hd, List.drop_eq_nil_of_le hge]; rfl
        have Hf := Lib.hid hfin
        clear hd hn hfin
        go_wp2_with fail
        go_ret2
        exact ⟨by rw [Hf.out]; rfl, hb1.trans ((Below.refl _ _).alloc hb1.size _)⟩
end Go.Vir


namespace Go.Vir
open Go

def FF (n : Nat) : Nat := Ieee.double.nearest false n 0

theorem dbl_binade : Ieee.double.binade = 4503599627370496 := by decide
theorem dbl_inf : Ieee.double.infRung = 9218868437227405312 := by decide
theorem dbl_sign : Ieee.double.signWeight = 9223372036854775808 := by decide
theorem dbl_least : Ieee.double.leastPlace = -1074 := by decide
theorem dbl_frac : Ieee.double.fractionBits = 52 := rfl

theorem cut_none (way : Ieee.Toward) (s : Bool) (n : Nat) : way.cut s n 0 = n := by
  unfold Ieee.Toward.cut
  cases way <;> simp [Nat.mod_one]

theorem read_word (r : Nat) (h1 : 4503599627370496 ≤ r) (h2 : r < 9218868437227405312) :
    Ieee.double.read r = .number false (4503599627370496 + r % 4503599627370496) (-1074 + (r / 4503599627370496 - 1 : Nat)) := by
  unfold Ieee.Format.read
  simp only [dbl_binade, dbl_inf, dbl_sign, dbl_least]
  have e1 : r % 9223372036854775808 = r := Nat.mod_eq_of_lt (by omega)
  have e2 : r / 9223372036854775808 = 0 := Nat.div_eq_of_lt (by omega)
  rw [e1, e2, if_neg (by omega), if_pos h2]
  rfl

theorem read_zero (q : Nat) (hq : q = 1074) : Ieee.double.read (FF 0) = .number false (0 * 2 ^ q) (-(q : Int)) := by
  rw [Nat.zero_mul]
  have : FF 0 = 0 := by decide
  rw [this, hq]
  unfold Ieee.Format.read
  simp only [dbl_binade, dbl_sign, dbl_least]
  rfl

theorem read_FF (n : Nat) (h : n < 16777216) : ∃ p : Nat, p ≤ 1074 ∧ Ieee.double.read (FF n) = .number false (n * 2 ^ p) (-(p : Int)) ∧ (n ≠ 0 → p ≤ 52 ∧ 2 ^ 52 ≤ n * 2 ^ p) := by
  by_cases h0 : n = 0
  · subst h0
    exact ⟨1074, Nat.le_refl _, read_zero 1074 rfl, fun h => absurd rfl h⟩
  · have hl1 := Nat.log2_self_le h0
    have hl2 : n < 2 ^ (n.log2 + 1) := Nat.lt_log2_self
    have hl3 : n.log2 < 24 := (Nat.log2_lt h0).2 (by omega)
    generalize hL : n.log2 = L at *
    have hk1 : 2 ^ 52 ≤ n * 2 ^ (52 - L) := by
      calc 2 ^ 52 = 2 ^ L * 2 ^ (52 - L) := by rw [← Nat.pow_add]; congr 1; omega
        _ ≤ n * 2 ^ (52 - L) := Nat.mul_le_mul_right _ hl1
    have hk2 : n * 2 ^ (52 - L) < 2 ^ 53 := by
      calc n * 2 ^ (52 - L) < 2 ^ (L + 1) * 2 ^ (52 - L) := Nat.mul_lt_mul_of_pos_right hl2 (Nat.two_pow_pos _)
        _ = 2 ^ 53 := by rw [← Nat.pow_add]; congr 1; omega
    refine ⟨52 - L, by omega, ?_, fun _ => ⟨by omega, hk1⟩⟩
    have hff : FF n = (1022 + L) * 4503599627370496 + n * 2 ^ (52 - L) := by
      unfold FF Ieee.Format.nearest
      rw [if_neg h0]
      simp only [dbl_binade, dbl_inf, dbl_least, dbl_frac, hL]
      have hm : max ((0 : Int) + (L : Int) - ((52 : Nat) : Int)) (-1074) = -((52 - L : Nat) : Int) := by omega
      rw [hm]
      have e1 : ((0 : Int) - -((52 - L : Nat) : Int)).toNat = 52 - L := by omega
      have e2 : (-((52 - L : Nat) : Int) - 0).toNat = 0 := by omega
      have e3 : (-((52 - L : Nat) : Int) - -1074).toNat = 1022 + L := by omega
      rw [e1, e2, e3, cut_none, Nat.shiftLeft_eq]
      generalize n * 2 ^ (52 - L) = k at *
      show (if false = true then _ else _) = _
      rw [if_neg (by simp)]
      exact Nat.min_eq_left (by omega)
    rw [hff]
    generalize n * 2 ^ (52 - L) = k at *
    rw [read_word _ (by omega) (by omega)]
    congr 1
    · omega
    · omega

theorem cmp_mul (a b c : Nat) (hc : 0 < c) : compare (((a * c : Nat)) : Int) ((b * c : Nat) : Int) = compare a b := by
  show compareOfLessAndEq _ _ = compareOfLessAndEq _ _
  unfold compareOfLessAndEq
  have h1 : (((a * c : Nat) : Int) < ((b * c : Nat) : Int)) ↔ a < b := by
    rw [Int.ofNat_lt]; exact Nat.mul_lt_mul_right hc
  have h2 : (((a * c : Nat) : Int) = ((b * c : Nat) : Int)) ↔ a = b := by
    rw [Int.ofNat_inj]; exact Nat.mul_left_inj (by omega)
  simp only [h1, h2]

theorem order_FF (a b : Nat) (ha : a < 16777216) (hb : b < 16777216) : FloatKind.f64.format.order (FF a) (FF b) = some (compare a b) := by
  obtain ⟨p, _, h1, _⟩ := read_FF a ha
  obtain ⟨q, _, h2, _⟩ := read_FF b hb
  show ((Ieee.double.read (FF a)).order (Ieee.double.read (FF b))) = _
  rw [h1, h2]
  simp only [Ieee.Datum.order, Ieee.signed, Bool.false_eq_true, if_false, Nat.shiftLeft_eq]
  congr 1
  rcases Nat.le_total p q with hpq | hpq
  · have e0 : min (-(p : Int)) (-(q : Int)) = -(q : Int) := by omega
    rw [e0]
    have e1 : (-(p : Int) - -(q : Int)).toNat = q - p := by omega
    have e2 : (-(q : Int) - -(q : Int)).toNat = 0 := by omega
    rw [e1, e2, Nat.mul_assoc, ← Nat.pow_add, Nat.mul_assoc, ← Nat.pow_add, show p + (q - p) = q by omega, Nat.add_zero]
    exact cmp_mul a b _ (Nat.two_pow_pos _)
  · have e0 : min (-(p : Int)) (-(q : Int)) = -(p : Int) := by omega
    rw [e0]
    have e1 : (-(p : Int) - -(p : Int)).toNat = 0 := by omega
    have e2 : (-(q : Int) - -(p : Int)).toNat = p - q := by omega
    rw [e1, e2, Nat.mul_assoc, ← Nat.pow_add, Nat.mul_assoc, ← Nat.pow_add, show q + (p - q) = p by omega, Nat.add_zero]
    exact cmp_mul a b _ (Nat.two_pow_pos _)

theorem lt_FF (a b : Nat) (ha : a < 16777216) (hb : b < 16777216) : (FloatKind.f64.format.order (FF a) (FF b) == some .lt) = decide (a < b) := by
  rw [order_FF a b ha hb, Bool.eq_iff_iff, beq_iff_eq, Option.some.injEq, decide_eq_true_eq]
  exact Nat.compare_eq_lt
theorem gt_FF (a b : Nat) (ha : a < 16777216) (hb : b < 16777216) : (FloatKind.f64.format.order (FF a) (FF b) == some .gt) = decide (b < a) := by
  rw [order_FF a b ha hb, Bool.eq_iff_iff, beq_iff_eq, Option.some.injEq, decide_eq_true_eq]
  exact Nat.compare_eq_gt

theorem toInt_FF (n : Nat) (h : n < 16777216) : (FloatKind.f64.decode (FF n)).toInt .zero = some (n : Int) := by
  obtain ⟨p, _, h1, h2⟩ := read_FF n h
  show ((Ieee.double.read (FF n)).toInt .zero) = _
  rw [h1]
  simp only [Ieee.Datum.toInt, Ieee.Datum.integral, Ieee.signed, Bool.false_eq_true, if_false, Nat.shiftLeft_eq]
  have e1 : (-(p : Int)).toNat = 0 := by omega
  have e2 : (- -(p : Int)).toNat = p := by omega
  rw [e1, e2]
  simp only [Nat.pow_zero, Nat.mul_one]
  congr 2
  unfold Ieee.Toward.cut
  by_cases h0 : n = 0
  · subst h0; simp
  · obtain ⟨hp, hk⟩ := h2 h0
    have hlog : 52 ≤ (n * 2 ^ p).log2 := (Nat.le_log2 (by omega)).2 hk
    have hm : min p ((n * 2 ^ p).log2 + 2) = p := by omega
    simp only [hm, Nat.shiftLeft_eq, Nat.one_mul, Nat.mul_div_cancel _ (Nat.two_pow_pos p), Bool.toNat_false, Nat.add_zero]

theorem nearest_FF (n : Nat) : FloatKind.f64.nearest (n : Int) = FF n := by
  unfold FloatKind.nearest FF
  have h : decide ((n : Int) < 0) = false := by simp
  rw [h]
  rfl
theorem FF_max : FF 1114111 = 4697535882029170688 := by decide
end Go.Vir

