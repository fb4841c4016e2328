/- Joined texts: TrG, TrH, TrI, Foz. -/
import Derived.Test.YtkkpkcnlocmnhaaGreatDoorJk
import Derived.Test.YtkkpkcnlocmnhaaGreatDoorJa
import Derived.Test.YtkkpkcnlocmnhaaGreatDoorJc
import Derived.Test.YtkkpkcnlocmnhaaGreatDoorJd
import Derived.Test.YtkkpkcnlocmnhaaGreatDoorJh
import Derived.Test.YtkkpkcnlocmnhaaGreatDoorJb
namespace Go.Vir
open Go Go.RowKit Go.Proofs
attribute [local go_sem] Oper.semAt_some

structure BdS (F b m : Nat) (T : TrV) (Vi Vb : Value) (xs : List Value) (W : World) : Prop where
  bd : W.heap[b]? = some (.cells #[Vi, Vb, .map (some m)] 214 (0, 0))
  mp : ∃ es ck, W.heap[m]? = some (.map es ck) ∧ AscB es (kvL T.bl 0)
  st : TrS F (fun k => k = b ∨ k = m) W T Vi Vb xs
  len : ∀ y ∈ T.bl, y.length = 256
  ne : b ≠ m
  fb : True
  fm : True
structure BdF (b m : Nat) (Vi Vb : Value) (W W' : World) : Prop where
  os : W'.os = W.os
  tape : W'.tape = W.tape
  output : W'.output = W.output
  size : W.heap.size ≤ W'.heap.size
  blk : ∀ k, k < W.heap.size → k ≠ b → k ≠ m → Vi.ownBlock ≠ some k → Vb.ownBlock ≠ some k → W'.heap[k]? = W.heap[k]?

def AddP (F b m : Nat) (T : TrV) (Vi Vb : Value) (w w' : World) : Prop := ∃ Vi' Vb' xs', BdS F b m T Vi' Vb' xs' w' ∧ BdF b m Vi Vb w w'

theorem exec_load_blk {a : Act} {o : Oper} {V : World} {x : Operand} {bx : Nat} {C : Array Value} (ho : o.op = .load 220 x) (hx : a.eval x = .pointer (some ⟨bx, 0, none⟩)) (hg : V.heap[bx]? = some (.cells C 220 (0, 0))) (hs : C.size = 256) :
    (execOp a.eval o).run Tryz.prog V = .ok (.value (.agg C)) V := by
  unfold execOp
  simp only [ho, hx, Instr.loadAt, Instr.sureAddr, Sem.run_bind, Sem.run_pure, Result.andThen_ok, run_loadVar_row V bx 220 220 C (0, 0) _ hg Tryz.underlying220 rfl (by rw [hs]; exact blk_size)]
theorem exec_look_blk {a : Act} {o : Oper} {V : World} {mo ko : Operand} {m : Nat} {x : List Int} {kvs : KB} {es : Array MapEntry} {ck : Nat} (ho : o.op = .lookup 212 mo ko true) (hm : a.eval mo = .map (some m)) (hk : a.eval ko = blkV x)
    (hg : V.heap[m]? = some (.map es ck)) (ha : AscB es kvs) (hn : ∀ y ∈ kvs, y.1.length = 256) (hx : x.length = 256) :
    (execOp a.eval o).run Tryz.prog V = .ok (.value (.tuple #[.int .i64 ((valB2 x kvs).getD 0), .bool (valB2 x kvs).isSome])) V := by
  have h := run_look_kb (P := Tryz.prog) (w := V) (k := x) true Tryz.underlying212 Tryz.underlying220 Tryz.underlying3 (fun w => Tryz.sizeOf3 w) (Tryz.zeroValue3 V) hg ha hn hx
  unfold execOp
  simp only [ho, hm, hk, Sem.run_bind, Sem.run_pure, h, Result.andThen_ok, if_true]

section
variable {F b m : Nat} {T : TrV} {Vi Vb Vi2 Vb2 : Value} {xs : List Value} {W U V V3 V5 V6 : World}
theorem BdF.refl (b m : Nat) (Vi Vb : Value) (W : World) : BdF b m Vi Vb W W := ⟨rfl, rfl, rfl, Nat.le_refl _, fun _ _ _ _ _ _ => rfl⟩
theorem BdF.trans (h : BdF b m Vi Vb W U) (k : BdF b m Vi2 Vb2 U V) (hi : ∀ q, q < W.heap.size → Vi.ownBlock ≠ some q → Vi2.ownBlock ≠ some q) (hb : ∀ q, q < W.heap.size → Vb.ownBlock ≠ some q → Vb2.ownBlock ≠ some q) : BdF b m Vi Vb W V :=
  ⟨k.os.trans h.os, k.tape.trans h.tape, k.output.trans h.output, Nat.le_trans h.size k.size, fun q hq h1 h2 h3 h4 => (k.blk q (Nat.lt_of_lt_of_le hq h.size) h1 h2 (hi q hq h3) (hb q hq h4)).trans (h.blk q hq h1 h2 h3 h4)⟩
theorem BdF.below (h : Below W.heap.size W U) : BdF b m Vi Vb W U := ⟨h.os, h.tape, h.output, h.size, fun k hk _ _ _ _ => h.block k hk⟩
theorem BdS.below (h : BdS F b m T Vi Vb xs W) (hb : Below W.heap.size W U) : BdS F b m T Vi Vb xs U :=
  ⟨(hb.block b (Array.getElem?_eq_some_iff.1 h.bd).1).trans h.bd, (by obtain ⟨es, ck, h1, h2⟩ := h.mp; exact ⟨es, ck, (hb.block m (Array.getElem?_eq_some_iff.1 h1).1).trans h1, h2⟩), h.st.below hb, h.len, h.ne, h.fb, h.fm⟩
theorem BdS.fin {nn : Int} (hS : BdS F b m T Vi Vb xs V) (o : Obj) (hr : V6.ownsRow F 3 1 Vi2 (T.ix.length + 1) (T.ix.map intC ++ [intC nn])) (hg : (V.alloc o).grownBy V6 Vi.ownBlock) (hat : Vi2.ownBlock = Vi.ownBlock ∨ Vi2.ownBlock = some (V.alloc o).heap.size) :
    V6.cell? ⟨b, 0, none⟩ = some Vi ∧ V6.frozen? ⟨b, 0, none⟩ = false ∧ BdS F b m { ix := T.ix ++ [nn], bl := T.bl } Vi2 Vb xs (V6.setCell ⟨b, 0, none⟩ Vi2) ∧ BdF b m Vi Vb V (V6.setCell ⟨b, 0, none⟩ Vi2) := by
  have hbV : Below V.heap.size V (V.alloc o) := (Below.refl _ V).alloc (Nat.le_refl _) o
  have hS2 := hS.below hbV
  have hbl : b < (V.alloc o).heap.size := (Array.getElem?_eq_some_iff.1 hS2.bd).1
  have h6 : V6.heap[b]? = some (.cells #[Vi, Vb, .map (some m)] 214 (0, 0)) := (hg.block b hbl (fun e => hS.st.xi b e.symm (.inl rfl))).trans hS2.bd
  have hst := hS2.st.addIx hr hg (hat.imp id fun e => ⟨_, Nat.le_refl _, e⟩)
  have hne : ∀ k, k ≠ b → (V6.setCell ⟨b, 0, none⟩ Vi2).heap[k]? = V6.heap[k]? := fun k hk => Below.heap_setCell _ _ _ _ hk
  refine ⟨cell_blk h6 0, frozen_blk h6 0, ⟨by simpa using setCell_blk h6 0 Vi2, ?_, hst.keep (by simp [World.setCell]) (fun k _ hx => hne k (fun e => hx (.inl e))), hS.len, hS.ne, hS.fb, hS.fm⟩, hg.os, hg.tape, hg.output, by have := hg.size; simp [World.setCell] at this ⊢; omega, fun k hk h1 h2 h3 h4 => (hne k h1).trans ((hg.block k (Nat.lt_of_lt_of_le hk hbV.size) (fun e => h3 e.symm)).trans (hbV.block k hk))⟩
  obtain ⟨es, ck, h1, h2⟩ := hS2.mp
  exact ⟨es, ck, (hne m hS.ne.symm).trans ((hg.block m (Array.getElem?_eq_some_iff.1 h1).1 (fun e => hS.st.xi m e.symm (.inr rfl))).trans h1), h2⟩
theorem BdS.mid {x : List Int} {es : Array MapEntry} {ck g c : Nat} (hbd : U.heap[b]? = some (.cells #[Vi, Vb, .map (some m)] 214 (0, 0))) (hm : U.heap[m]? = some (.map es ck)) (ha : AscB es (kvL (T.bl ++ [x]) 0))
    (st : TrS F (fun k => k = b ∨ k = m) U T Vi Vb xs) (hlen : ∀ y ∈ T.bl, y.length = 256) (hne : b ≠ m) (hfb : True) (hfm : True) (hx : x.length = 256) (h3 : Below U.heap.size U V3) (hg1 : U.heap.size ≤ g) (hg2 : g < V3.heap.size) (hc : 256 ≤ c) (hgi : Ints V3 V3.heap.size (some ⟨g, 0, none⟩) 256 x)
    (o : Obj) (hr : V5.ownsRow F 24 1 Vb2 (T.bl.length + 1) (xs ++ [.slice (some ⟨g, 0, none⟩) 256 c])) (hg : (V3.alloc o).grownBy V5 Vb.ownBlock) (hat : Vb2.ownBlock = Vb.ownBlock ∨ Vb2.ownBlock = some (V3.alloc o).heap.size) :
    BdS F b m { ix := T.ix, bl := T.bl ++ [x] } Vi Vb2 (xs ++ [.slice (some ⟨g, 0, none⟩) 256 c]) (V5.setCell ⟨b, 1, none⟩ Vb2) ∧ BdF b m Vi Vb U (V5.setCell ⟨b, 1, none⟩ Vb2) ∧ (∀ q, q < U.heap.size → Vb.ownBlock ≠ some q → Vb2.ownBlock ≠ some q) := by
  have hbV : Below V3.heap.size V3 (V3.alloc o) := (Below.refl _ V3).alloc (Nat.le_refl _) o
  have hb2 : Below U.heap.size U (V3.alloc o) := h3.trans (hbV.mono h3.size)
  have st2 := st.below hb2
  have hbl : b < U.heap.size := (Array.getElem?_eq_some_iff.1 hbd).1
  have hml : m < U.heap.size := (Array.getElem?_eq_some_iff.1 hm).1
  have hs4 := hb2.size
  have h5 : V5.heap[b]? = some (.cells #[Vi, Vb, .map (some m)] 214 (0, 0)) := (hg.block b (by omega) (fun e => st.xb b e.symm (.inl rfl))).trans ((hb2.block b hbl).trans hbd)
  have hnk : ∀ k, k ≠ b → (V5.setCell ⟨b, 1, none⟩ Vb2).heap[k]? = V5.heap[k]? := fun k hk => Below.heap_setCell _ _ _ _ hk
  have hi4 : Ints (V3.alloc o) (V3.alloc o).heap.size (some ⟨g, 0, none⟩) 256 x := (hgi.below hbV).more hbV.size
  rw [← hx] at hi4 hr hc ⊢
  have hst := st2.addBl (g := g) (c := c) (x := x) (by have := st.hF; omega) (by have := hbV.size; omega) (by rintro (e | e) <;> omega) (fun e => by have := (lt_own st.ri g e).2; omega) (fun e => by have := (lt_own st.rb g e).2; omega) hc hi4 hr hg (hat.imp id fun e => ⟨_, Nat.le_refl _, e⟩)
  refine ⟨⟨by simpa using setCell_blk h5 1 Vb2, ⟨es, ck, (hnk m hne.symm).trans ((hg.block m (by omega) (fun e => st.xb m e.symm (.inr rfl))).trans ((hb2.block m hml).trans hm)), ha⟩, hst.keep (by simp [World.setCell]) (fun k _ hx => hnk k (fun e => hx (.inl e))), fun y hy => ?_, hne, hfb, hfm⟩,
    ⟨hg.os.trans hb2.os, hg.tape.trans hb2.tape, hg.output.trans hb2.output, by have := hg.size; simp only [World.setCell, Array.size_modify] at this ⊢; omega, fun k hk h1 h2 h3 h4 => (hnk k h1).trans ((hg.block k (by omega) (fun e => h4 e.symm)).trans (hb2.block k hk))⟩, fun q hq h e => ?_⟩
  · rcases List.mem_append.1 hy with h | h
    · exact hlen y h
    · rw [List.mem_singleton.1 h]; exact hx
  · rcases hat with e2 | e2
    · exact h (e2 ▸ e)
    · rw [e2] at e; have := Option.some.inj e; omega
end

set_option maxRecDepth 100000 in
set_option maxHeartbeats 8000000 in
theorem builder_add (F b m : Nat) (T : TrV) (Vi Vb : Value) (xs : List Value) (x : List Int) (w : World) (hS : BdS F b m T Vi Vb xs w) (hx : x.length = 256) (hi : T.ix.length ≤ 100000) (hbl : T.bl.length ≤ 100000) :
    Calls Tryz.prog 141 #[.pointer (some ⟨b, 0, none⟩), blkV x] w fun e w' => (∃ v, e = .returned v) ∧ AddP F b m (putT T x) Vi Vb w w' := by
  obtain ⟨es, ck, hm, ha⟩ := hS.mp
  obtain ⟨i0, hi0, hz0, hz1, hz2⟩ := info_parts ints_info
  obtain ⟨j0, hj0, jz0, jz1, jz2⟩ := info_parts zint_info
  have hkn : ∀ y ∈ kvL T.bl 0, y.1.length = 256 := fun y hy => hS.len _ (kvL_mem T.bl 0 y hy)
  have hlk := fun (V : World) (a : Act) (o : Oper) (mo ko : Operand) (ho : o.op = .lookup 212 mo ko true) (h1 : a.eval mo = .map (some m)) (h2 : a.eval ko = blkV x) (hg : V.heap[m]? = some (.map es ck)) => exec_look_blk ho h1 h2 hg ha hkn hx
  rw [kvL_val, Nat.zero_add] at hlk
  have hcs : (blkC x).size = 256 := by rw [blkC_size, hx]
  have hbC : blkV x = .agg (blkC x) := rfl
  have hbw : Below w.heap.size w (w.alloc (.cells (blkC x) 220)) := by go_grown
  have hS1 := hS.below hbw
  have hg1 : (w.alloc (.cells (blkC x) 220)).heap[w.heap.size]? = some (.cells (blkC x) 220 (0, 0)) := heap_new rfl
  have hm1 := (hbw.block m (Array.getElem?_eq_some_iff.1 hm).1).trans hm
  have hml : m < w.heap.size := (Array.getElem?_eq_some_iff.1 hm).1
  have hbw1 : b < w.heap.size := (Array.getElem?_eq_some_iff.1 hS.bd).1
  obtain ⟨Ab, cb, rfl⟩ : ∃ A c, Vb = .slice A T.bl.length c := by
    rcases hS.st.rb.2 with ⟨e, h0⟩ | ⟨g, cap, cur, e, _⟩
    · exact ⟨none, 0, by rw [e, h0]⟩
    · exact ⟨_, _, e⟩
  have hput : putT T x = { ix := T.ix ++ [(T.bl.idxOf x : Int)], bl := if x ∈ T.bl then T.bl else T.bl ++ [x] } := rfl
  have Hput := Lib.hid hput
  have HCs := Lib.hid hcs
  have Hbw := Lib.hid hbw
  have HS1 := Lib.hid hS1
  have Hm1 := Lib.hid hm1
  have Hha := Lib.hid ha
  have HbC := Lib.hid hbC
  have Hx := Lib.hid hx
  have Hmw := Lib.hid (And.intro hml hbw1)
  have hG1 := Lib.hid hg1
  have Hkn := Lib.hid hkn
  by_cases hmem : x ∈ T.bl
  · rw [if_pos hmem] at hlk hput
    simp only [Option.getD_some, Option.isSome_some] at hlk
    have hput2 : putT T x = { ix := T.ix ++ [(T.bl.idxOf x : Int)], bl := T.bl } := by rw [Hput.out, if_pos hmem]
    have hnb : T.bl.idxOf x < T.bl.length := List.idxOf_lt_length_of_mem hmem
    generalize hnv : ((T.bl.idxOf x : Nat) : Int) = nv at *
    have Hput2 := Lib.hid hput2
    rw [hbC] at hlk ⊢
    generalize blkC x = C at *
    have Hlk := Lib.hid hlk
    clear hput hlk hput2 hbC hcs hx hbw hS1 hg1 hm1 hS hm ha hmem hnv hnb hkn Hput
    go_enter Tryz.func141, Tryz.ntmps141
    go_upto_region 1 with fail
    have x0 : (w.alloc (.cells C 220)).drew.cell? ⟨b, 2, none⟩ = some (.map (some m)) := cell_blk HS1.out.bd 2
    have x1 : (w.alloc (.cells C 220)).drew.heap[w.heap.size]? = some (.cells C 220 (0, 0)) := hG1.out
    have x2 : (w.alloc (.cells C 220)).drew.heap[m]? = some (.map es ck) := Hm1.out
    have hSd := HS1.out.below (Below.refl _ _).drew
    have hbd := Hbw.out.drew
    generalize hbx : w.heap.size = bx at *
    generalize w.alloc (.cells C 220) = W1 at *
    have HSd := Lib.hid hSd
    have Hbd := Lib.hid hbd
    clear hSd hbd HS1 Hm1 hG1
    refine wp_region_noPanic ?_
    refine wp_region_held_drew (S := (fun V => V.cell? ⟨b, 2, none⟩ = some (.map (some m)) ∧ V.heap[bx]? = some (.cells C 220 (0, 0)) ∧ V.heap[m]? = some (.map es ck))) (by kernel_rfl) ⟨x0, x1, x2⟩ (fun hHeld => ?_)
    refine wpAnyH_take (i := 0) (v := .pointer (some ⟨b, 0, none⟩)) rfl (by kernel_rfl) (by kernel_rfl) (by kernel_rfl) (fun _ _ _ h => h) (.inl ⟨by rfl, fun V hV => by obtain ⟨c0, c1, c2⟩ := hV; go_simp⟩) hHeld ?_
    try simp only [Act.put, qB, qC, qE, qF, qG]
    refine wpAnyH_take (i := 1) (v := .pointer (some ⟨b, 0, none⟩)) rfl (by kernel_rfl) (by kernel_rfl) (by kernel_rfl) (fun _ _ _ h => h) (.inl ⟨by rfl, fun V hV => by obtain ⟨c0, c1, c2⟩ := hV; go_simp⟩) hHeld ?_
    try simp only [Act.put, qB, qC, qD, qE, qF, qG]
    refine wpAnyH_take (i := 2) (v := .pointer (some ⟨b, 2, none⟩)) rfl (by kernel_rfl) (by kernel_rfl) (by kernel_rfl) (fun _ _ _ h => h) (.inl ⟨by rfl, fun V hV => by obtain ⟨c0, c1, c2⟩ := hV; go_simp⟩) hHeld ?_
    try simp only [Act.put, qB, qC, qD, qE, qF, qG]
    refine wpAnyH_take (i := 3) (v := .map (some m)) rfl (by kernel_rfl) (by kernel_rfl) (by kernel_rfl) (fun _ _ _ h => h) (.inl ⟨by rfl, fun V hV => by obtain ⟨c0, c1, c2⟩ := hV; go_simp⟩) hHeld ?_
    try simp only [Act.put, qB, qC, qD, qE, qF, qG]
    refine wpAnyH_take (i := 4) (v := .agg C) rfl (by kernel_rfl) (by kernel_rfl) (by kernel_rfl) (fun _ _ _ h => h) (.inl ⟨by rfl, fun V hV => by obtain ⟨c0, c1, c2⟩ := hV; exact exec_load_blk rfl rfl c1 HCs.out⟩) hHeld ?_
    try simp only [Act.put, qB, qC, qD, qE, qF, qG]
    refine wpAnyH_take (i := 5) (v := .tuple #[.int .i64 nv, .bool true]) rfl (by kernel_rfl) (by kernel_rfl) (by kernel_rfl) (fun _ _ _ h => h) (.inl ⟨by rfl, fun V hV => by obtain ⟨c0, c1, c2⟩ := hV; exact (Hlk.out _ _ _ _ _ rfl rfl rfl c2)⟩) hHeld ?_
    try simp only [Act.put, qB, qC, qD, qE, qF, qG]
    refine wpAnyH_take (i := 6) (v := .tuple #[.int .i64 nv, .bool true]) rfl (by kernel_rfl) (by kernel_rfl) (by kernel_rfl) (fun _ _ _ h => h) (.inl ⟨by rfl, fun V hV => by obtain ⟨c0, c1, c2⟩ := hV; go_simp⟩) hHeld ?_
    try simp only [Act.put, qB, qC, qD, qE, qF, qG]
    refine wpAnyH_take (i := 7) (v := .int .i64 nv) rfl (by kernel_rfl) (by kernel_rfl) (by kernel_rfl) (fun _ _ _ h => h) (.inl ⟨by rfl, fun V hV => by obtain ⟨c0, c1, c2⟩ := hV; go_simp⟩) hHeld ?_
    try simp only [Act.put, qB, qC, qD, qE, qF, qG]
    refine wpAnyH_take (i := 8) (v := .bool true) rfl (by kernel_rfl) (by kernel_rfl) (by kernel_rfl) (fun _ _ _ h => h) (.inl ⟨by rfl, fun V hV => by obtain ⟨c0, c1, c2⟩ := hV; go_simp⟩) hHeld ?_
    try simp only [Act.put, qB, qC, qD, qE, qF, qG]
    refine wpAnyH_take (i := 9) (v := .int .i64 nv) rfl (by kernel_rfl) (by kernel_rfl) (by kernel_rfl) (fun _ _ _ h => h) (.inl ⟨by rfl, fun V hV => by obtain ⟨c0, c1, c2⟩ := hV; go_simp⟩) hHeld ?_
    try simp only [Act.put, qB, qC, qD, qE, qF, qG]
    refine wpAnyH_take (i := 10) (v := .bool true) rfl (by kernel_rfl) (by kernel_rfl) (by kernel_rfl) (fun _ _ _ h => h) (.inl ⟨by rfl, fun V hV => by obtain ⟨c0, c1, c2⟩ := hV; go_simp⟩) hHeld ?_
    try simp only [Act.put, qB, qC, qD, qE, qF, qG]
    refine wpAnyH_done (by kernel_rfl) ?_ _
    refine NoPanic.normal ?_
    generalize W1.drew = V1 at *
    clear x0 x1 x2 hHeld
    have e0 : V1.cell? ⟨b, 0, none⟩ = some Vi := cell_blk HSd.out.bd 0
    have hc1 := cell_one_new V1 (.int .i64 nv) 3
    have hri := HSd.out.st.ri.alloc (.cells #[.int .i64 nv] 3)
    have hfs := HSd.out.st.hF
    have hri' : (V1.alloc (.cells #[.int .i64 nv] 3)).ownsRow F 3 1 Vi T.ix.length (T.ix.map intC) := hri
    go_wp2_with (at_builtin; refine wpList_append_at _ rfl _ _ 24 rfl F 3 j0 (.int .i64 0) 1 8 Tryz.underlying24 hj0 jz0 jz1 jz2 rfl (by decide) Vi T.ix.length (T.ix.map intC) rfl hri' ⟨V1.heap.size, 0, none⟩ 1 1 [.int .i64 nv] rfl rfl hc1 ?qone ?qb1 ?qb2 ?qb3 ?_)
    case qone => first | rfl | (intro u hu; simp at hu; subst hu; rfl)
    case qb1 => simp only [maxLen]; omega
    case qb2 => omega
    case qb3 => first | omega | (simp; omega)
    intro Vi2 V7 hown7 hg7 hat7
    obtain ⟨g7, cap7, rfl⟩ := ownsRow_succ hown7
    obtain ⟨e7, f7, hfin1, hfin2⟩ := HSd.out.fin (nn := nv) _ hown7 hg7 (by rw [World.size_alloc]; exact hat7)
    have Hf := Lib.hid (And.intro hfin1 hfin2)
    clear hfin1 hfin2 hown7 hg7 hat7
    go_wp2_with fail
    go_end0
    exact ⟨⟨_, rfl⟩, _, _, xs, by rw [Hput2.out]; exact Hf.out.1, (BdF.below (by rw [hbx]; exact Hbd.out)).trans Hf.out.2 (fun _ _ h => h) (fun _ _ h => h)⟩
  · rw [if_neg hmem] at hlk
    simp only [Option.getD_none, Option.isSome_none] at hlk
    have hput2 : putT T x = { ix := T.ix ++ [(T.bl.length : Int)], bl := T.bl ++ [x] } := by rw [Hput.out, if_neg hmem, List.idxOf_eq_length hmem]
    have hv0 : valB2 x (kvL T.bl 0) = none := by rw [kvL_val, if_neg hmem]
    obtain ⟨es2, ck2, hup, ha2⟩ : ∃ es2 ck2, (∀ V : World, V.heap[m]? = some (.map es ck) → (Instr.mapUpdate 212 (.map (some m)) (blkV x) (.int .i64 (T.bl.length : Int))).run Tryz.prog V = .ok () (V.putObj m (.map es2 ck2))) ∧ AscB es2 (kvL T.bl 0 ++ [(x, (T.bl.length : Int))]) :=
      run_new_any (P := Tryz.prog) (T.bl.length : Int) Tryz.underlying212 Tryz.underlying220 Tryz.underlying3 (fun w => Tryz.sizeOf3 w) ha hkn hx hv0
    have ha3 : AscB es2 (kvL (T.bl ++ [x]) 0) := by rw [kvL_snoc, Nat.zero_add]; exact ha2
    have Hput2 := Lib.hid hput2
    have hxa : ∃ a : Array Value, a = blkC x := ⟨_, rfl⟩
    have hints : ∀ (V : World) (bx : Nat), V.heap[bx]? = some (.cells (blkC x) 220 (0, 0)) → Ints V V.heap.size (some ⟨bx, 0, none⟩) 256 x := fun V bx hV =>
      ⟨hx, fun _ => ⟨bx, 0, rfl, (Array.getElem?_eq_some_iff.1 hV).1, fun j hj => by rw [cell_blk hV, Nat.zero_add, blkC_get hj]⟩⟩
    rw [hbC] at hlk hup ⊢
    generalize blkC x = C at *
    have Hlk := Lib.hid hlk
    have Hup := Lib.hid hup
    have Ha3 := Lib.hid ha3
    have Hints := Lib.hid hints
    clear hlk hput hput2 hbC hcs hx hbw hS1 hg1 hm1 hS hm ha hmem hkn Hput hup ha2 ha3 hints hxa hv0
    go_enter Tryz.func141, Tryz.ntmps141
    go_upto_region 1 with fail
    have x0 : (w.alloc (.cells C 220)).drew.cell? ⟨b, 2, none⟩ = some (.map (some m)) := cell_blk HS1.out.bd 2
    have x1 : (w.alloc (.cells C 220)).drew.heap[w.heap.size]? = some (.cells C 220 (0, 0)) := hG1.out
    have x2 : (w.alloc (.cells C 220)).drew.heap[m]? = some (.map es ck) := Hm1.out
    have hSd := HS1.out.below (Below.refl _ _).drew
    have hbd := Hbw.out.drew
    have hbxm : m < w.heap.size ∧ b < w.heap.size := Hmw.out
    generalize hbx : w.heap.size = bx at *
    generalize w.alloc (.cells C 220) = W1 at *
    have HSd := Lib.hid hSd
    have Hbd := Lib.hid hbd
    have Hbm := Lib.hid (show b ≠ m ∧ bx ≠ m from ⟨hSd.ne, by omega⟩)
    clear hSd hbd HS1 Hm1 hG1
    refine wp_region_noPanic ?_
    refine wp_region_held_drew (S := (fun V => V.cell? ⟨b, 2, none⟩ = some (.map (some m)) ∧ V.heap[bx]? = some (.cells C 220 (0, 0)) ∧ V.heap[m]? = some (.map es ck))) (by kernel_rfl) ⟨x0, x1, x2⟩ (fun hHeld => ?_)
    refine wpAnyH_take (i := 0) (v := .pointer (some ⟨b, 0, none⟩)) rfl (by kernel_rfl) (by kernel_rfl) (by kernel_rfl) (fun _ _ _ h => h) (.inl ⟨by rfl, fun V hV => by obtain ⟨c0, c1, c2⟩ := hV; go_simp⟩) hHeld ?_
    try simp only [Act.put, qB, qC, qE, qF, qG]
    refine wpAnyH_take (i := 1) (v := .pointer (some ⟨b, 0, none⟩)) rfl (by kernel_rfl) (by kernel_rfl) (by kernel_rfl) (fun _ _ _ h => h) (.inl ⟨by rfl, fun V hV => by obtain ⟨c0, c1, c2⟩ := hV; go_simp⟩) hHeld ?_
    try simp only [Act.put, qB, qC, qD, qE, qF, qG]
    refine wpAnyH_take (i := 2) (v := .pointer (some ⟨b, 2, none⟩)) rfl (by kernel_rfl) (by kernel_rfl) (by kernel_rfl) (fun _ _ _ h => h) (.inl ⟨by rfl, fun V hV => by obtain ⟨c0, c1, c2⟩ := hV; go_simp⟩) hHeld ?_
    try simp only [Act.put, qB, qC, qD, qE, qF, qG]
    refine wpAnyH_take (i := 3) (v := .map (some m)) rfl (by kernel_rfl) (by kernel_rfl) (by kernel_rfl) (fun _ _ _ h => h) (.inl ⟨by rfl, fun V hV => by obtain ⟨c0, c1, c2⟩ := hV; go_simp⟩) hHeld ?_
    try simp only [Act.put, qB, qC, qD, qE, qF, qG]
    refine wpAnyH_take (i := 4) (v := .agg C) rfl (by kernel_rfl) (by kernel_rfl) (by kernel_rfl) (fun _ _ _ h => h) (.inl ⟨by rfl, fun V hV => by obtain ⟨c0, c1, c2⟩ := hV; exact exec_load_blk rfl rfl c1 HCs.out⟩) hHeld ?_
    try simp only [Act.put, qB, qC, qD, qE, qF, qG]
    refine wpAnyH_take (i := 5) (v := .tuple #[.int .i64 0, .bool false]) rfl (by kernel_rfl) (by kernel_rfl) (by kernel_rfl) (fun _ _ _ h => h) (.inl ⟨by rfl, fun V hV => by obtain ⟨c0, c1, c2⟩ := hV; exact (Hlk.out _ _ _ _ _ rfl rfl rfl c2)⟩) hHeld ?_
    try simp only [Act.put, qB, qC, qD, qE, qF, qG]
    refine wpAnyH_take (i := 6) (v := .tuple #[.int .i64 0, .bool false]) rfl (by kernel_rfl) (by kernel_rfl) (by kernel_rfl) (fun _ _ _ h => h) (.inl ⟨by rfl, fun V hV => by obtain ⟨c0, c1, c2⟩ := hV; go_simp⟩) hHeld ?_
    try simp only [Act.put, qB, qC, qD, qE, qF, qG]
    refine wpAnyH_take (i := 7) (v := .int .i64 0) rfl (by kernel_rfl) (by kernel_rfl) (by kernel_rfl) (fun _ _ _ h => h) (.inl ⟨by rfl, fun V hV => by obtain ⟨c0, c1, c2⟩ := hV; go_simp⟩) hHeld ?_
    try simp only [Act.put, qB, qC, qD, qE, qF, qG]
    refine wpAnyH_take (i := 8) (v := .bool false) rfl (by kernel_rfl) (by kernel_rfl) (by kernel_rfl) (fun _ _ _ h => h) (.inl ⟨by rfl, fun V hV => by obtain ⟨c0, c1, c2⟩ := hV; go_simp⟩) hHeld ?_
    try simp only [Act.put, qB, qC, qD, qE, qF, qG]
    refine wpAnyH_take (i := 9) (v := .int .i64 0) rfl (by kernel_rfl) (by kernel_rfl) (by kernel_rfl) (fun _ _ _ h => h) (.inl ⟨by rfl, fun V hV => by obtain ⟨c0, c1, c2⟩ := hV; go_simp⟩) hHeld ?_
    try simp only [Act.put, qB, qC, qD, qE, qF, qG]
    refine wpAnyH_take (i := 10) (v := .bool false) rfl (by kernel_rfl) (by kernel_rfl) (by kernel_rfl) (fun _ _ _ h => h) (.inl ⟨by rfl, fun V hV => by obtain ⟨c0, c1, c2⟩ := hV; go_simp⟩) hHeld ?_
    try simp only [Act.put, qB, qC, qD, qE, qF, qG]
    refine wpAnyH_done (by kernel_rfl) ?_ _
    refine NoPanic.normal ?_
    generalize W1.drew = V0 at *
    have x3 : V0.cell? ⟨b, 1, none⟩ = some (.slice Ab T.bl.length cb) := cell_blk HSd.out.bd 1
    go_upto_region 4 with fail
    have x0 : V0.drew.cell? ⟨b, 2, none⟩ = some (.map (some m)) := x0
    have x1 : V0.drew.heap[bx]? = some (.cells C 220 (0, 0)) := x1
    have x2 : V0.drew.heap[m]? = some (.map es ck) := x2
    have hSd := HSd.out.below (Below.refl _ _).drew
    have hbd := Hbd.out.drew
    have HSd := Lib.hid hSd
    have Hbd := Lib.hid hbd
    clear hSd hbd x3
    refine wp_region_noPanic ?_
    refine wp_region_held_drew (S := (fun V => V.cell? ⟨b, 2, none⟩ = some (.map (some m)) ∧ V.heap[bx]? = some (.cells C 220 (0, 0)))) (by kernel_rfl) ⟨x0, x1⟩ (fun hHeld => ?_)
    generalize V0.drew = V1 at *
    refine wpAnyH_take (i := 0) (v := .pointer (some ⟨b, 0, none⟩)) rfl (by kernel_rfl) (by kernel_rfl) (by kernel_rfl) (fun _ _ _ h => h) (.inl ⟨by rfl, fun V hV => by obtain ⟨c0, c1⟩ := hV; go_simp⟩) hHeld ?_
    try simp only [Act.put, qB, qC, qE, qF, qG]
    refine wpAnyH_take (i := 1) (v := .pointer (some ⟨b, 0, none⟩)) rfl (by kernel_rfl) (by kernel_rfl) (by kernel_rfl) (fun _ _ _ h => h) (.inl ⟨by rfl, fun V hV => by obtain ⟨c0, c1⟩ := hV; go_simp⟩) hHeld ?_
    try simp only [Act.put, qB, qC, qD, qE, qF, qG]
    refine wpAnyH_take (i := 2) (v := .pointer (some ⟨b, 2, none⟩)) rfl (by kernel_rfl) (by kernel_rfl) (by kernel_rfl) (fun _ _ _ h => h) (.inl ⟨by rfl, fun V hV => by obtain ⟨c0, c1⟩ := hV; go_simp⟩) hHeld ?_
    try simp only [Act.put, qB, qC, qD, qE, qF, qG]
    refine wpAnyH_take (i := 3) (v := .map (some m)) rfl (by kernel_rfl) (by kernel_rfl) (by kernel_rfl) (fun _ _ _ h => h) (.inl ⟨by rfl, fun V hV => by obtain ⟨c0, c1⟩ := hV; go_simp⟩) hHeld ?_
    try simp only [Act.put, qB, qC, qD, qE, qF, qG]
    refine wpAnyH_take (i := 4) (v := .agg C) rfl (by kernel_rfl) (by kernel_rfl) (by kernel_rfl) (fun _ _ _ h => h) (.inl ⟨by rfl, fun V hV => by obtain ⟨c0, c1⟩ := hV; exact exec_load_blk rfl rfl c1 HCs.out⟩) hHeld ?_
    try simp only [Act.put, qB, qC, qD, qE, qF, qG]
    refine wpAnyH_take (i := 5) (v := .int .i64 (T.bl.length : Int)) rfl (by kernel_rfl) (by kernel_rfl) (by kernel_rfl) (fun _ _ _ h => h) (.inl ⟨by rfl, fun V hV => by obtain ⟨c0, c1⟩ := hV; go_simp⟩) hHeld ?_
    try simp only [Act.put, qB, qC, qD, qE, qF, qG]
    refine wpAnyH_ready (rs := [6]) (by kernel_rfl) (by simp) ?_
    refine AllReadyH.cons rfl (fun K hK => ?_) AllReadyH.nil
    go_simp
    rw [Hup.out V1 x2]
    simp only [Result.andThen_ok]
    have y0 : (V1.putObj m (.map es2 ck2)).cell? ⟨b, 2, none⟩ = some (.map (some m)) := (World.cell?_of_block (World.putObj_heap_other Hbm.out.1)).trans x0
    have y1 : (V1.putObj m (.map es2 ck2)).heap[bx]? = some (.cells C 220 (0, 0)) := (World.putObj_heap_other Hbm.out.2).trans x1
    refine hK.out _ _ ⟨y0, y1⟩ (fun hHeld => ?_)
    clear hK K
    try simp only [Act.put]
    refine wpAnyH_done (by kernel_rfl) ?_ _
    refine NoPanic.normal ?_
    have hS1 := HSd.out
    have hbd2 : (V1.putObj m (.map es2 ck2)).heap[b]? = some (.cells #[Vi, .slice Ab T.bl.length cb, .map (some m)] 214 (0, 0)) := (World.putObj_heap_other Hbm.out.1).trans hS1.bd
    have hm2 : (V1.putObj m (.map es2 ck2)).heap[m]? = some (.map es2 ck2) := World.putObj_heap_same (Array.getElem?_eq_some_iff.1 x2).1
    have hst2 : TrS F (fun k => k = b ∨ k = m) (V1.putObj m (.map es2 ck2)) T Vi (.slice Ab T.bl.length cb) xs := hS1.st.keep (by simp) (fun k _ hx => World.putObj_heap_other (fun e => hx (.inr e)))
    have hbf : BdF b m Vi (.slice Ab T.bl.length cb) w (V1.putObj m (.map es2 ck2)) := by
      have hb := Hbd.out
      exact ⟨hb.os, hb.tape, hb.output, by have := hb.size; simp; omega, fun k hk _ h2 _ _ => (World.putObj_heap_other h2).trans (hb.block k (by omega))⟩
    have hint := Hints.out (V1.putObj m (.map es2 ck2)) bx y1
    generalize V1.putObj m (.map es2 ck2) = V2 at *
    have Hst2 := Lib.hid hst2
    have Hbf := Lib.hid hbf
    have Hint := Lib.hid hint
    have Hbd2 := Lib.hid hbd2
    have Hm2 := Lib.hid hm2
    have hbl2 : b < V2.heap.size := (Array.getElem?_eq_some_iff.1 hbd2).1
    have Hln := Lib.hid hS1.len
    have Hff := Lib.hid (And.intro hS1.fb hS1.fm)
    clear hst2 hbf hint hbd2 hm2 hS1 HSd Hbd x0 x1 x2 y0 y1 hHeld Hup
    go_upto_region 5 with fail
    go_cut [] (fun wx => ∃ (Vb2 : Value) (xs2 : List Value), BdS F b m { ix := T.ix, bl := T.bl ++ [x] } Vi Vb2 xs2 wx ∧ BdF b m Vi (.slice Ab T.bl.length cb) V2.drew wx ∧ (∀ q, q < V2.drew.heap.size → (Value.slice Ab T.bl.length cb).ownBlock ≠ some q → Vb2.ownBlock ≠ some q))
    case first =>
      have Hcl := Lib.hid (clone_ints ⟨bx, 0, none⟩ 256 256 x V2.drew (Hint.out.below (Below.refl _ _).drew) (by omega) (by omega))
      have xU : V2.drew.cell? ⟨b, 1, none⟩ = some (.slice Ab T.bl.length cb) := cell_blk Hbd2.out 1
      have Hlt := Lib.hid (show b < V2.drew.heap.size from hbl2)
      have hstU := Hst2.out.below (Below.refl _ _).drew
      have Hfs := Lib.hid hstU.hF
      have Hrb := Lib.hid (fun (V3 : World) (hb : Below V2.drew.heap.size V2.drew V3) => ownsRow_below hstU.rb hb)
      have Hbv := Lib.hid (show (Value.slice Ab T.bl.length cb).ownBlock ≠ some b from fun e => hstU.xb b e (.inl rfl))
      have Hfz := Lib.hid (fun (V3 V5 : World) (o : Obj) (hb : Below V2.drew.heap.size V2.drew V3) (hg : (V3.alloc o).grownBy V5 (Value.slice Ab T.bl.length cb).ownBlock) =>
        (frozen_blk ((hg.block b (by have := hb.size; simp; have h : b < V2.drew.heap.size := hbl2; omega) (fun e => hstU.xb b e.symm (.inl rfl))).trans ((heap_old (show b < V3.heap.size by have := hb.size; have h : b < V2.drew.heap.size := hbl2; omega)).trans ((hb.block b hbl2).trans (show V2.drew.heap[b]? = _ from Hbd2.out)))) 1 : V5.frozen? ⟨b, 1, none⟩ = false))
      have Hmid := Lib.hid (fun (V3 V5 : World) (Vb2 : Value) (g c : Nat) (o : Obj) (h3 : Below V2.drew.heap.size V2.drew V3) (h4 : V2.drew.heap.size ≤ g) (h5 : g < V3.heap.size) (h6 : 256 ≤ c) (h7 : Ints V3 V3.heap.size (some ⟨g, 0, none⟩) 256 x) h8 h9 h10 =>
        BdS.mid (U := V2.drew) (V3 := V3) (V5 := V5) (Vb2 := Vb2) (g := g) (c := c) Hbd2.out Hm2.out Ha3.out hstU Hln.out Hbm.out.1 Hff.out.1 Hff.out.2 Hx.out h3 h4 h5 h6 h7 o h8 h9 h10)
      clear hstU
      refine wp_region_noPanic ?_
      refine wp_region_held_drew (S := fun _ => True) (by kernel_rfl) trivial (fun hHeld => ?_)
      generalize V2.drew = U at *
      refine wpAnyH_take (i := 0) (v := .pointer (some ⟨b, 0, none⟩)) rfl (by kernel_rfl) (by kernel_rfl) (by kernel_rfl) (fun _ _ _ h => h) (.inl ⟨by rfl, fun V hV => by go_simp⟩) hHeld ?_
      try simp only [Act.put, qB, qC, qE, qF, qG]
      refine wpAnyH_take (i := 1) (v := .pointer (some ⟨b, 0, none⟩)) rfl (by kernel_rfl) (by kernel_rfl) (by kernel_rfl) (fun _ _ _ h => h) (.inl ⟨by rfl, fun V hV => by go_simp⟩) hHeld ?_
      try simp only [Act.put, qB, qC, qD, qE, qF, qG]
      refine wpAnyH_take (i := 2) (v := .pointer (some ⟨b, 0, none⟩)) rfl (by kernel_rfl) (by kernel_rfl) (by kernel_rfl) (fun _ _ _ h => h) (.inl ⟨by rfl, fun V hV => by go_simp⟩) hHeld ?_
      try simp only [Act.put, qB, qC, qD, qE, qF, qG]
      refine wpAnyH_take (i := 3) (v := .pointer (some ⟨b, 0, none⟩)) rfl (by kernel_rfl) (by kernel_rfl) (by kernel_rfl) (fun _ _ _ h => h) (.inl ⟨by rfl, fun V hV => by go_simp⟩) hHeld ?_
      try simp only [Act.put, qB, qC, qD, qE, qF, qG]
      refine wpAnyH_take (i := 4) (v := .pointer (some ⟨b, 1, none⟩)) rfl (by kernel_rfl) (by kernel_rfl) (by kernel_rfl) (fun _ _ _ h => h) (.inl ⟨by rfl, fun V hV => by go_simp⟩) hHeld ?_
      try simp only [Act.put, qB, qC, qD, qE, qF, qG]
      refine wpAnyH_take (i := 6) (v := .slice (some ⟨bx, 0, none⟩) 256 256) rfl (by kernel_rfl) (by kernel_rfl) (by kernel_rfl) (fun _ _ _ h => h) (.inl ⟨by rfl, fun V hV => by go_simp⟩) hHeld ?_
      try simp only [Act.put, qB, qC, qD, qE, qF, qG]
      refine wpAnyH_ready (rs := [5, 7]) (by kernel_rfl) (by simp) ?_
      refine AllReadyH.cons rfl (fun K hK => ?_) (AllReadyH.cons rfl (fun K hK => ?_) AllReadyH.nil)
      · go_simp
        refine hK.out _ _ trivial (fun hHeld => ?_)
        clear hK K
        try simp only [Act.put, qB, qC, qD, qE, qF, qG]
        refine wpAnyH_ready (rs := [7]) (by kernel_rfl) (by simp) ?_
        refine AllReadyH.cons rfl (fun K hK => ?_) AllReadyH.nil
        go_simp
        refine (Hcl.out).mono ?_
        rintro e V3 ⟨g, c2, rfl, hc2, hg1, hg2, hgi, hb3⟩
        have x3 := (World.cell?_of_block (a := ⟨b, 1, none⟩) (hb3.block b Hlt.out)).trans xU
        refine hK.out _ _ trivial (fun hHeld => ?_)
        clear hK K
        try simp only [Act.put, qB, qC, qD, qE, qF, qG]
        refine wpAnyH_ready (rs := [8]) (by kernel_rfl) (by simp) ?_
        refine AllReadyH.cons rfl (fun K hK => ?_) AllReadyH.nil
        go_simp
        have x4 : (V3.alloc (.cells #[.slice (some ⟨g, 0, none⟩) 256 c2] 24)).cell? ⟨b, 1, none⟩ = some (.slice Ab T.bl.length cb) := (World.cell?_alloc_lt _ _ _ (show b < V3.heap.size by have := hb3.size; have := Hlt.out; omega)).trans x3
        have hc1 := cell_one_new V3 (.slice (some ⟨g, 0, none⟩) 256 c2) 24
        have hrb := (Hrb.out V3 hb3).alloc (.cells #[.slice (some ⟨g, 0, none⟩) 256 c2] 24)
        have hfs : F ≤ (V3.alloc (.cells #[.slice (some ⟨g, 0, none⟩) 256 c2] 24)).heap.size := by have := Hfs.out; have := hb3.size; simp; omega
        have hbs : b < (V3.alloc (.cells #[.slice (some ⟨g, 0, none⟩) 256 c2] 24)).heap.size := by have := Hlt.out; have := hb3.size; simp; omega
        have hfz : ∀ V5, (V3.alloc (.cells #[.slice (some ⟨g, 0, none⟩) 256 c2] 24)).grownBy V5 (Value.slice Ab T.bl.length cb).ownBlock → V5.frozen? ⟨b, 1, none⟩ = false := fun V5 h5 => Hfz.out V3 V5 _ hb3 h5
        obtain ⟨V4, hV4⟩ : ∃ V4, V4 = V3.alloc (.cells #[.slice (some ⟨g, 0, none⟩) 256 c2] 24) := ⟨_, rfl⟩
        rw [← hV4] at x4 hc1 hrb hfs hbs hfz
        rw [← hV4]
        have HV4 := Lib.hid hV4
        have Hrb4 := Lib.hid hrb
        have Hfz4 := Lib.hid hfz
        have Hc1 := Lib.hid hc1
        clear hV4 hrb hfz hc1
        refine hK.out _ _ trivial (fun hHeld => ?_)
        clear hK K
        try simp only [Act.put, qB, qC, qD, qE, qF, qG]
        refine wpAnyH_ready (rs := [9]) (by kernel_rfl) (by simp) ?_
        refine AllReadyH.cons rfl (fun K hK => ?_) AllReadyH.nil
        refine step_append_where rfl _ _ 25 rfl F 24 i0 (.slice none 0 0) 1 24 Tryz.underlying25 hi0 hz0 hz1 hz2 rfl (by decide) (.slice Ab T.bl.length cb) T.bl.length xs (by simp [Act.eval]) Hrb4.out ⟨V3.heap.size, 0, none⟩ 1 1 [.slice (some ⟨g, 0, none⟩) 256 c2] (by simp [Act.eval]) rfl Hc1.out (by intro u hu; simp at hu; subst hu; rfl) (by simp only [maxLen]; omega) (by omega) hfs ?_
        intro Vb2 V5 hown5 hg5 hat5
        have x5 := (World.cell?_of_block (a := ⟨b, 1, none⟩) (hg5.block b hbs (fun e => Hbv.out e.symm))).trans x4
        have f5 := Hfz4.out V5 hg5
        obtain ⟨g5, cap5, rfl⟩ := ownsRow_succ hown5
        rw [HV4.out] at hg5 hat5
        obtain ⟨hm1, hm2, hm3⟩ := Hmid.out V3 V5 _ g c2 _ hb3 hg1 hg2 hc2 hgi hown5 hg5 hat5
        have Hm := Lib.hid (And.intro hm1 (And.intro hm2 hm3))
        clear hm1 hm2 hm3 hown5 hg5 hat5
        refine hK.out _ _ trivial (fun hHeld => ?_)
        clear hK K
        try simp only [Act.put, qB, qC, qD, qE, qF, qG]
        refine wpAnyH_take (i := 10) (v := .pointer (some ⟨b, 0, none⟩)) rfl (by kernel_rfl) (by kernel_rfl) (by kernel_rfl) (fun _ _ _ h => h) (.inl ⟨by rfl, fun V hV => by go_simp⟩) hHeld ?_
        try simp only [Act.put, qB, qC, qD, qE, qF, qG]
        refine wpAnyH_take (i := 11) (v := .pointer (some ⟨b, 0, none⟩)) rfl (by kernel_rfl) (by kernel_rfl) (by kernel_rfl) (fun _ _ _ h => h) (.inl ⟨by rfl, fun V hV => by go_simp⟩) hHeld ?_
        try simp only [Act.put, qB, qC, qD, qE, qF, qG]
        refine wpAnyH_take (i := 12) (v := .pointer (some ⟨b, 1, none⟩)) rfl (by kernel_rfl) (by kernel_rfl) (by kernel_rfl) (fun _ _ _ h => h) (.inl ⟨by rfl, fun V hV => by go_simp⟩) hHeld ?_
        try simp only [Act.put, qB, qC, qD, qE, qF, qG]
        refine wpAnyH_ready (rs := [13]) (by kernel_rfl) (by simp) ?_
        refine AllReadyH.cons rfl (fun K hK => ?_) AllReadyH.nil
        go_simp
        refine hK.out _ _ trivial (fun hHeld => ?_)
        clear hK K
        try simp only [Act.put, qB, qC, qD, qE, qF, qG]
        refine wpAnyH_done (by kernel_rfl) ?_ _
        refine NoPanic.normal ?_
        go_wp2_with fail
        go_meet
        exact ⟨_, _, Hm.out.1, Hm.out.2.1, Hm.out.2.2⟩
      · go_simp
        refine (Hcl.out).mono ?_
        rintro e V3 ⟨g, c2, rfl, hc2, hg1, hg2, hgi, hb3⟩
        have x3 := (World.cell?_of_block (a := ⟨b, 1, none⟩) (hb3.block b Hlt.out)).trans xU
        refine hK.out _ _ trivial (fun hHeld => ?_)
        clear hK K
        try simp only [Act.put, qB, qC, qD, qE, qF, qG]
        refine wpAnyH_ready (rs := [5, 8]) (by kernel_rfl) (by simp) ?_
        refine AllReadyH.cons rfl (fun K hK => ?_) (AllReadyH.cons rfl (fun K hK => ?_) AllReadyH.nil)
        · go_simp
          refine hK.out _ _ trivial (fun hHeld => ?_)
          clear hK K
          try simp only [Act.put, qB, qC, qD, qE, qF, qG]
          refine wpAnyH_ready (rs := [8]) (by kernel_rfl) (by simp) ?_
          refine AllReadyH.cons rfl (fun K hK => ?_) AllReadyH.nil
          go_simp
          have x4 : (V3.alloc (.cells #[.slice (some ⟨g, 0, none⟩) 256 c2] 24)).cell? ⟨b, 1, none⟩ = some (.slice Ab T.bl.length cb) := (World.cell?_alloc_lt _ _ _ (show b < V3.heap.size by have := hb3.size; have := Hlt.out; omega)).trans x3
          have hc1 := cell_one_new V3 (.slice (some ⟨g, 0, none⟩) 256 c2) 24
          have hrb := (Hrb.out V3 hb3).alloc (.cells #[.slice (some ⟨g, 0, none⟩) 256 c2] 24)
          have hfs : F ≤ (V3.alloc (.cells #[.slice (some ⟨g, 0, none⟩) 256 c2] 24)).heap.size := by have := Hfs.out; have := hb3.size; simp; omega
          have hbs : b < (V3.alloc (.cells #[.slice (some ⟨g, 0, none⟩) 256 c2] 24)).heap.size := by have := Hlt.out; have := hb3.size; simp; omega
          have hfz : ∀ V5, (V3.alloc (.cells #[.slice (some ⟨g, 0, none⟩) 256 c2] 24)).grownBy V5 (Value.slice Ab T.bl.length cb).ownBlock → V5.frozen? ⟨b, 1, none⟩ = false := fun V5 h5 => Hfz.out V3 V5 _ hb3 h5
          obtain ⟨V4, hV4⟩ : ∃ V4, V4 = V3.alloc (.cells #[.slice (some ⟨g, 0, none⟩) 256 c2] 24) := ⟨_, rfl⟩
          rw [← hV4] at x4 hc1 hrb hfs hbs hfz
          rw [← hV4]
          have HV4 := Lib.hid hV4
          have Hrb4 := Lib.hid hrb
          have Hfz4 := Lib.hid hfz
          have Hc1 := Lib.hid hc1
          clear hV4 hrb hfz hc1
          refine hK.out _ _ trivial (fun hHeld => ?_)
          clear hK K
          try simp only [Act.put, qB, qC, qD, qE, qF, qG]
          refine wpAnyH_ready (rs := [9]) (by kernel_rfl) (by simp) ?_
          refine AllReadyH.cons rfl (fun K hK => ?_) AllReadyH.nil
          refine step_append_where rfl _ _ 25 rfl F 24 i0 (.slice none 0 0) 1 24 Tryz.underlying25 hi0 hz0 hz1 hz2 rfl (by decide) (.slice Ab T.bl.length cb) T.bl.length xs (by simp [Act.eval]) Hrb4.out ⟨V3.heap.size, 0, none⟩ 1 1 [.slice (some ⟨g, 0, none⟩) 256 c2] (by simp [Act.eval]) rfl Hc1.out (by intro u hu; simp at hu; subst hu; rfl) (by simp only [maxLen]; omega) (by omega) hfs ?_
          intro Vb2 V5 hown5 hg5 hat5
          have x5 := (World.cell?_of_block (a := ⟨b, 1, none⟩) (hg5.block b hbs (fun e => Hbv.out e.symm))).trans x4
          have f5 := Hfz4.out V5 hg5
          obtain ⟨g5, cap5, rfl⟩ := ownsRow_succ hown5
          rw [HV4.out] at hg5 hat5
          obtain ⟨hm1, hm2, hm3⟩ := Hmid.out V3 V5 _ g c2 _ hb3 hg1 hg2 hc2 hgi hown5 hg5 hat5
          have Hm := Lib.hid (And.intro hm1 (And.intro hm2 hm3))
          clear hm1 hm2 hm3 hown5 hg5 hat5
          refine hK.out _ _ trivial (fun hHeld => ?_)
          clear hK K
          try simp only [Act.put, qB, qC, qD, qE, qF, qG]
          refine wpAnyH_take (i := 10) (v := .pointer (some ⟨b, 0, none⟩)) rfl (by kernel_rfl) (by kernel_rfl) (by kernel_rfl) (fun _ _ _ h => h) (.inl ⟨by rfl, fun V hV => by go_simp⟩) hHeld ?_
          try simp only [Act.put, qB, qC, qD, qE, qF, qG]
          refine wpAnyH_take (i := 11) (v := .pointer (some ⟨b, 0, none⟩)) rfl (by kernel_rfl) (by kernel_rfl) (by kernel_rfl) (fun _ _ _ h => h) (.inl ⟨by rfl, fun V hV => by go_simp⟩) hHeld ?_
          try simp only [Act.put, qB, qC, qD, qE, qF, qG]
          refine wpAnyH_take (i := 12) (v := .pointer (some ⟨b, 1, none⟩)) rfl (by kernel_rfl) (by kernel_rfl) (by kernel_rfl) (fun _ _ _ h => h) (.inl ⟨by rfl, fun V hV => by go_simp⟩) hHeld ?_
          try simp only [Act.put, qB, qC, qD, qE, qF, qG]
          refine wpAnyH_ready (rs := [13]) (by kernel_rfl) (by simp) ?_
          refine AllReadyH.cons rfl (fun K hK => ?_) AllReadyH.nil
          go_simp
          refine hK.out _ _ trivial (fun hHeld => ?_)
          clear hK K
          try simp only [Act.put, qB, qC, qD, qE, qF, qG]
          refine wpAnyH_done (by kernel_rfl) ?_ _
          refine NoPanic.normal ?_
          go_wp2_with fail
          go_meet
          exact ⟨_, _, Hm.out.1, Hm.out.2.1, Hm.out.2.2⟩
        · go_simp
          have x4 : (V3.alloc (.cells #[.slice (some ⟨g, 0, none⟩) 256 c2] 24)).cell? ⟨b, 1, none⟩ = some (.slice Ab T.bl.length cb) := (World.cell?_alloc_lt _ _ _ (show b < V3.heap.size by have := hb3.size; have := Hlt.out; omega)).trans x3
          have hc1 := cell_one_new V3 (.slice (some ⟨g, 0, none⟩) 256 c2) 24
          have hrb := (Hrb.out V3 hb3).alloc (.cells #[.slice (some ⟨g, 0, none⟩) 256 c2] 24)
          have hfs : F ≤ (V3.alloc (.cells #[.slice (some ⟨g, 0, none⟩) 256 c2] 24)).heap.size := by have := Hfs.out; have := hb3.size; simp; omega
          have hbs : b < (V3.alloc (.cells #[.slice (some ⟨g, 0, none⟩) 256 c2] 24)).heap.size := by have := Hlt.out; have := hb3.size; simp; omega
          have hfz : ∀ V5, (V3.alloc (.cells #[.slice (some ⟨g, 0, none⟩) 256 c2] 24)).grownBy V5 (Value.slice Ab T.bl.length cb).ownBlock → V5.frozen? ⟨b, 1, none⟩ = false := fun V5 h5 => Hfz.out V3 V5 _ hb3 h5
          obtain ⟨V4, hV4⟩ : ∃ V4, V4 = V3.alloc (.cells #[.slice (some ⟨g, 0, none⟩) 256 c2] 24) := ⟨_, rfl⟩
          rw [← hV4] at x4 hc1 hrb hfs hbs hfz
          rw [← hV4]
          have HV4 := Lib.hid hV4
          have Hrb4 := Lib.hid hrb
          have Hfz4 := Lib.hid hfz
          have Hc1 := Lib.hid hc1
          clear hV4 hrb hfz hc1
          refine hK.out _ _ trivial (fun hHeld => ?_)
          clear hK K
          try simp only [Act.put, qB, qC, qD, qE, qF, qG]
          refine wpAnyH_ready (rs := [5]) (by kernel_rfl) (by simp) ?_
          refine AllReadyH.cons rfl (fun K hK => ?_) AllReadyH.nil
          go_simp
          refine hK.out _ _ trivial (fun hHeld => ?_)
          clear hK K
          try simp only [Act.put, qB, qC, qD, qE, qF, qG]
          refine wpAnyH_ready (rs := [9]) (by kernel_rfl) (by simp) ?_
          refine AllReadyH.cons rfl (fun K hK => ?_) AllReadyH.nil
          refine step_append_where rfl _ _ 25 rfl F 24 i0 (.slice none 0 0) 1 24 Tryz.underlying25 hi0 hz0 hz1 hz2 rfl (by decide) (.slice Ab T.bl.length cb) T.bl.length xs (by simp [Act.eval]) Hrb4.out ⟨V3.heap.size, 0, none⟩ 1 1 [.slice (some ⟨g, 0, none⟩) 256 c2] (by simp [Act.eval]) rfl Hc1.out (by intro u hu; simp at hu; subst hu; rfl) (by simp only [maxLen]; omega) (by omega) hfs ?_
          intro Vb2 V5 hown5 hg5 hat5
          have x5 := (World.cell?_of_block (a := ⟨b, 1, none⟩) (hg5.block b hbs (fun e => Hbv.out e.symm))).trans x4
          have f5 := Hfz4.out V5 hg5
          obtain ⟨g5, cap5, rfl⟩ := ownsRow_succ hown5
          rw [HV4.out] at hg5 hat5
          obtain ⟨hm1, hm2, hm3⟩ := Hmid.out V3 V5 _ g c2 _ hb3 hg1 hg2 hc2 hgi hown5 hg5 hat5
          have Hm := Lib.hid (And.intro hm1 (And.intro hm2 hm3))
          clear hm1 hm2 hm3 hown5 hg5 hat5
          refine hK.out _ _ trivial (fun hHeld => ?_)
          clear hK K
          try simp only [Act.put, qB, qC, qD, qE, qF, qG]
          refine wpAnyH_take (i := 10) (v := .pointer (some ⟨b, 0, none⟩)) rfl (by kernel_rfl) (by kernel_rfl) (by kernel_rfl) (fun _ _ _ h => h) (.inl ⟨by rfl, fun V hV => by go_simp⟩) hHeld ?_
          try simp only [Act.put, qB, qC, qD, qE, qF, qG]
          refine wpAnyH_take (i := 11) (v := .pointer (some ⟨b, 0, none⟩)) rfl (by kernel_rfl) (by kernel_rfl) (by kernel_rfl) (fun _ _ _ h => h) (.inl ⟨by rfl, fun V hV => by go_simp⟩) hHeld ?_
          try simp only [Act.put, qB, qC, qD, qE, qF, qG]
          refine wpAnyH_take (i := 12) (v := .pointer (some ⟨b, 1, none⟩)) rfl (by kernel_rfl) (by kernel_rfl) (by kernel_rfl) (fun _ _ _ h => h) (.inl ⟨by rfl, fun V hV => by go_simp⟩) hHeld ?_
          try simp only [Act.put, qB, qC, qD, qE, qF, qG]
          refine wpAnyH_ready (rs := [13]) (by kernel_rfl) (by simp) ?_
          refine AllReadyH.cons rfl (fun K hK => ?_) AllReadyH.nil
          go_simp
          refine hK.out _ _ trivial (fun hHeld => ?_)
          clear hK K
          try simp only [Act.put, qB, qC, qD, qE, qF, qG]
          refine wpAnyH_done (by kernel_rfl) ?_ _
          refine NoPanic.normal ?_
          go_wp2_with fail
          go_meet
          exact ⟨_, _, Hm.out.1, Hm.out.2.1, Hm.out.2.2⟩
    case rest =>
      obtain ⟨Vb2, xs2, hSd, hF2, hown⟩ := hcut
      have hsz : w.heap.size ≤ V2.drew.heap.size := Hbf.out.size
      have Hbf := Lib.hid (Hbf.out.trans (BdF.below (Below.refl _ V2).drew |>.trans hF2 (fun _ _ h => h) (fun _ _ h => h)) (fun _ _ h => h) (fun _ _ h => h))
      have HSd := Lib.hid hSd
      have Hown := Lib.hid (fun (q : Nat) (hq : q < w.heap.size) (h : (Value.slice Ab T.bl.length cb).ownBlock ≠ some q) => hown q (Nat.lt_of_lt_of_le hq hsz) h)
      clear hSd hF2 hown hsz
      generalize wc = V6 at *
      have e0 : V6.cell? ⟨b, 0, none⟩ = some Vi := cell_blk HSd.out.bd 0
      have hc1 := cell_one_new V6 (.int .i64 (T.bl.length : Int)) 3
      have hri := HSd.out.st.ri.alloc (.cells #[.int .i64 (T.bl.length : Int)] 3)
      have hfs := HSd.out.st.hF
      have hri' : (V6.alloc (.cells #[.int .i64 (T.bl.length : Int)] 3)).ownsRow F 3 1 Vi T.ix.length (T.ix.map intC) := hri
      go_wp2_with (at_builtin; refine wpList_append_at _ rfl _ _ 24 rfl F 3 j0 (.int .i64 0) 1 8 Tryz.underlying24 hj0 jz0 jz1 jz2 rfl (by decide) Vi T.ix.length (T.ix.map intC) rfl hri' ⟨V6.heap.size, 0, none⟩ 1 1 [.int .i64 (T.bl.length : Int)] rfl rfl hc1 ?qone ?qb1 ?qb2 ?qb3 ?_)
      case qone => first | rfl | (intro u hu; simp at hu; subst hu; rfl)
      case qb1 => simp only [maxLen]; omega
      case qb2 => omega
      case qb3 => first | omega | (simp; omega)
      intro Vi2 V7 hown7 hg7 hat7
      obtain ⟨g7, cap7, rfl⟩ := ownsRow_succ hown7
      obtain ⟨e7, f7, hfin1, hfin2⟩ := HSd.out.fin (nn := (T.bl.length : Int)) _ hown7 hg7 (by rw [World.size_alloc]; exact hat7)
      have Hf := Lib.hid (And.intro hfin1 hfin2)
      clear hfin1 hfin2 hown7 hg7 hat7
      go_wp2_with fail
      go_end0
      exact ⟨⟨_, rfl⟩, _, Vb2, xs2, by rw [Hput2.out]; exact Hf.out.1, Hbf.out.trans Hf.out.2 (fun _ _ h => h) Hown.out⟩
end Go.Vir



namespace Go.Vir
open Go Go.RowKit Go.Proofs
attribute [local go_sem] Oper.semAt_some

def atR (l : List Rg) (i : Nat) : Nat := (l.takeWhile fun x => decide (x.t < ((i * 256 : Nat) : Int))).length
def endR (l : List Rg) (i : Nat) : Nat := atR l i + ((l.drop (atR l i)).takeWhile fun x => decide (x.f ≤ ((i * 256 + 255 : Nat) : Int))).length
theorem atR_le (l : List Rg) (i : Nat) : atR l i ≤ l.length := (List.takeWhile_prefix _).length_le
theorem endR_le (l : List Rg) (i : Nat) : endR l i ≤ l.length := by
  have h1 := atR_le l i
  have h2 := (List.takeWhile_prefix (fun x : Rg => decide (x.f ≤ ((i * 256 + 255 : Nat) : Int))) (l := l.drop (atR l i))).length_le
  rw [List.length_drop] at h2
  unfold endR
  omega
theorem tw_mono {α : Type} {p q : α → Bool} (h : ∀ x, p x = true → q x = true) : ∀ l : List α, (l.takeWhile p).length ≤ (l.takeWhile q).length
  | [] => Nat.le_refl _
  | x :: l => by
    rw [List.takeWhile_cons, List.takeWhile_cons]
    split
    · rename_i hp
      rw [if_pos (h x hp)]
      simp only [List.length_cons]
      have := tw_mono h l; omega
    · exact Nat.zero_le _
set_option maxRecDepth 10000 in
theorem atR_mono (l : List Rg) {i j : Nat} (h : i ≤ j) : atR l i ≤ atR l j :=
  tw_mono (fun x hx => decide_eq_true (by have h1 := of_decide_eq_true hx; have h2 : i * 256 ≤ j * 256 := Nat.mul_le_mul_right 256 h; omega)) l
theorem atR_lt {l : List Rg} {i k : Nat} (h : k < atR l i) : ∃ hk : k < l.length, l[k].t < ((i * 256 : Nat) : Int) := by
  obtain ⟨h1, h2⟩ := takeWhile_get (fun x : Rg => decide (x.t < ((i * 256 : Nat) : Int))) l k h
  exact ⟨h1, of_decide_eq_true h2⟩
theorem atR_stop {l : List Rg} {i : Nat} (h : atR l i < l.length) : ¬ l[atR l i].t < ((i * 256 : Nat) : Int) := by
  exact of_decide_eq_false (takeWhile_stop (fun x : Rg => decide (x.t < ((i * 256 : Nat) : Int))) l h)
theorem endR_lt {l : List Rg} {i k : Nat} (h0 : atR l i ≤ k) (h : k < endR l i) : ∃ hk : k < l.length, l[k].f ≤ ((i * 256 + 255 : Nat) : Int) := by
  obtain ⟨h1, h2⟩ := takeWhile_get (fun x : Rg => decide (x.f ≤ ((i * 256 + 255 : Nat) : Int))) (l.drop (atR l i)) (k - atR l i) (by unfold endR at h; omega)
  simp only [List.length_drop] at h1
  refine ⟨by omega, ?_⟩
  have h3 := of_decide_eq_true h2
  rw [List.getElem_drop] at h3
  have e : atR l i + (k - atR l i) = k := by omega
  simp only [e] at h3
  exact h3
theorem endR_stop {l : List Rg} {i : Nat} (h : endR l i < l.length) : ¬ l[endR l i].f ≤ ((i * 256 + 255 : Nat) : Int) := by
  have h2 := takeWhile_stop (fun x : Rg => decide (x.f ≤ ((i * 256 + 255 : Nat) : Int))) (l.drop (atR l i)) (by rw [List.length_drop]; unfold endR at h; omega)
  have h3 := of_decide_eq_false h2
  rw [List.getElem_drop] at h3
  exact h3
theorem rise_sorted : ∀ {l : List Rg} {a : Int}, riseR a l = true → ∀ {i j : Nat} (h : i ≤ j) (hj : j < l.length), (l[i]'(by omega)).f ≤ l[j].f
  | [], _, _, _, _, _, hj => absurd hj (by simp)
  | x :: l, a, h, 0, 0, _, _ => Int.le_refl _
  | x :: l, a, h, 0, j + 1, _, hj => by
    simp only [riseR, Bool.and_eq_true, decide_eq_true_eq] at h
    have h1 := (rise_one h.2.2 _ (List.getElem_mem (show j < l.length by simpa using hj))).2
    have h2 := oneR_iff.1 h.1
    simp only [List.getElem_cons_zero, List.getElem_cons_succ]
    omega
  | x :: l, a, h, i + 1, j + 1, hij, hj => by
    simp only [riseR, Bool.and_eq_true, decide_eq_true_eq] at h
    simp only [List.getElem_cons_succ]
    exact rise_sorted h.2.2 (by omega) (by simpa using hj)
theorem row_says {l : List Rg} (h : riseR (-1) l = true) (i : Nat) : blockT ((l.drop (atR l i)).take (endR l i - atR l i)) i = blockT l i := by
  unfold blockT
  apply List.map_congr_left
  intro j hj
  have hj2 : j < 256 := by simpa using hj
  have hle := endR_le l i
  have hae : atR l i ≤ endR l i := by unfold endR; omega
  have e : l = l.take (atR l i) ++ ((l.drop (atR l i)).take (endR l i - atR l i) ++ l.drop (endR l i)) := by
    have e2 : l.drop (endR l i) = (l.drop (atR l i)).drop (endR l i - atR l i) := by rw [List.drop_drop]; congr 1; omega
    rw [e2, List.take_append_drop, List.take_append_drop]
  conv => rhs; rw [e]
  rw [say_mid]
  · intro x hx hc
    rw [List.mem_iff_getElem] at hx
    obtain ⟨k, hk, rfl⟩ := hx
    rw [List.length_take] at hk
    rw [List.getElem_take] at hc
    obtain ⟨_, h2⟩ := atR_lt (l := l) (i := i) (k := k) (by omega)
    omega
  · intro x hx hc
    rw [List.mem_iff_getElem] at hx
    obtain ⟨k, hk, rfl⟩ := hx
    rw [List.length_drop] at hk
    rw [List.getElem_drop] at hc
    have hs := endR_stop (l := l) (i := i) (by omega)
    have hmono : l[endR l i].f ≤ (l[endR l i + k]'(by omega)).f := rise_sorted h (by omega) (by omega)
    omega

theorem rows_make (A : Option Addr) (n c : Nat) (w : World) : Calls Tryz.prog 140 #[.slice A n c] w fun e w' => e = .returned (.func (.func 161) #[] #[.pointer (some ⟨w.heap.size, 0, none⟩)]) ∧ w.alloc (.cells #[.slice A n c] 93) = w' := by
  go_enter Tryz.func140, Tryz.ntmps140
  go_wp2
  go_ret
  exact ⟨rfl, rfl⟩
def rowV (A : Option Addr) (l : List Rg) (i : Nat) : Value := .slice (if endR l i = atR l i then A else A.map (·.add (atR l i * 3))) (endR l i - atR l i) (endR l i - atR l i)

set_option maxRecDepth 100000 in
set_option maxHeartbeats 4000000 in
theorem rows_iter (B0 b : Nat) (A : Option Addr) (n c : Nat) (l : List Rg) (W0 : World) (hb : B0 ≤ b) (hsz : b < W0.heap.size) (hn : n ≤ 1000000) (hnc : n ≤ c) (_hl : riseR (-1) l = true)
    (c0 : W0.heap[b]? = some (.cells #[.slice A n c] 93 (0, 0))) (hz : Rgs W0 B0 A n l) :
    Iter Tryz.prog 161 #[.pointer (some ⟨b, 0, none⟩)] 4352 (fun i => #[.int .i64 (i : Int), rowV A l i]) (fun k => k = b) B0 W0 := by
  rcases Nat.eq_zero_or_pos n with hn0 | hn0
  · intro lp J Jx W hW hJ hJx hY h0
    have hlen := hz.len
    have HY := Lib.hid hY
    have HJ := Lib.hid hJ
    clear hY hJ
    have hd0 := (hW.block b hsz).trans c0
    have hlow := fun k (hk : k < B0) => hW.block k (show k < W0.heap.size by omega)
    refine callsIn_wide.2 ?_
    go_enter Tryz.func161, Tryz.ntmps161
    go_step3
    go_wp2
    go_step3
    go_wp2
    go_loopw [3, 8] (fun t3 t8 wr => ∃ i a : Nat, i ≤ 4352 ∧ a ≤ atR l i ∧ t3 = .int .i64 (a : Int) ∧ t8 = .int .i64 (i : Int) ∧ J i wr ∧ wr.heap[b]? = some (.cells #[.slice A n c] 93 (0, 0)) ∧ (∀ k, k < B0 → wr.heap[k]? = W0.heap[k]?)) (fun _ t8 _ => 4352 - (RowKit.intOf t8).toNat)
    case atStart => exact ⟨0, 0, Nat.zero_le _, Nat.zero_le _, rfl, rfl, h0, hd0, hlow⟩
    case round =>
      obtain ⟨i, a, hi, ha, rfl, rfl, hJi, d0, hlw⟩ := hrel
      obtain ⟨wo, hwo⟩ : ∃ wo, wo = wr := ⟨_, rfl⟩
      subst hwo
      have e0 : wo.cell? ⟨b, 0, none⟩ = some (.slice A n c) := cell_blk d0 0
      have Hw := Lib.hid (And.intro hJi (And.intro d0 hlw))
      have hal := atR_le l i
      have hel := endR_le l i
      have hae : atR l i ≤ endR l i := by unfold endR; omega
      clear hJi d0 hlw hd0 hlow h0
      rcases Nat.lt_or_ge i 4352 with hlt | hge
      · have hdec : decide ((i : Int) < 4352) = true := decide_eq_true (by omega)
        go_wp2_with fail
        go_loopw [3] (fun t3 wr => ∃ k : Nat, k ≤ atR l i ∧ t3 = .int .i64 (k : Int) ∧ wr = wo) (fun t3 _ => n - (RowKit.intOf t3).toNat)
        case atStart => exact ⟨a, ha, rfl, rfl⟩
        case round =>
          obtain ⟨k, hk, rfl, hwe⟩ := hrel
          subst hwe
          obtain rfl : k = atR l i := by omega
          obtain ⟨wp, hwp⟩ : ∃ wp, wp = wr := ⟨_, rfl⟩
          subst hwp
          have hdn : decide (atR l i < n) = false := decide_eq_false (by omega)
          go_wp2_with fail
          clear hdn
          go_loopw [7] (fun t7 wr => ∃ e : Nat, atR l i ≤ e ∧ e ≤ endR l i ∧ t7 = .int .i64 (e : Int) ∧ wr = wp) (fun t7 _ => n - (RowKit.intOf t7).toNat)
          case atStart => exact ⟨atR l i, Nat.le_refl _, hae, rfl, rfl⟩
          case round =>
            obtain ⟨e, he1, he2, rfl, hwe⟩ := hrel
            subst hwe
            obtain rfl : e = endR l i := by omega
            have hdn : decide (endR l i < n) = false := decide_eq_false (by omega)
            have hv : rowV A l i = .slice A (endR l i - atR l i) (endR l i - atR l i) := by unfold rowV; rw [if_pos (by omega)]
            have hy := HY.out i wr (by omega) Hw.out.1
            rw [hv] at hy
            obtain ⟨fn, tmps, assign, body, hy, hR⟩ := hy
            clear hv
            go_upto_region 10 with fail
            refine (wpIn_wide (n := 0)).1 ?_
            gi_wp2
            refine ⟨rfl, hR.mono ?_⟩
            rintro e W' (⟨rfl, hJ', hk'⟩ | ⟨rfl, hJx'⟩)
            · have d0' : W'.heap[b]? = some (.cells #[.slice A n c] 93 (0, 0)) := (hk'.own _ rfl).trans Hw.out.2.1
              have hlw' : ∀ k, k < B0 → W'.heap[k]? = W0.heap[k]? := fun k hk => (hk'.low k hk).trans (Hw.out.2.2 k hk)
              have hmono := atR_mono l (Nat.le_succ i)
              have Hn := Lib.hid (And.intro hJ' (And.intro d0' (And.intro hlw' hmono)))
              clear hJ' hk' d0' hlw' hmono
              gi_wp2
              go_wp2
              go_roundw
              case rel => exact ⟨i + 1, atR l i, by omega, Hn.out.2.2.2, rfl, by go_num, Hn.out.1, Hn.out.2.1, Hn.out.2.2.1⟩
              case measure => simp [RowKit.intOf]; omega
            · gi_wp2
              go_wp2
              simp only [Exit.noGoto]
              go_end0
              exact ⟨⟨_, rfl⟩, .inr ⟨i, by omega, hJx'⟩⟩
      · obtain rfl : i = 4352 := by omega
        have hdec : decide (((4352 : Nat) : Int) < 4352) = false := rfl
        go_wp2_with fail
        simp only [Exit.noGoto]
        go_end0
        exact ⟨⟨_, rfl⟩, .inl Hw.out.1⟩
  · obtain ⟨zb, zo, rfl, hzb, hzc⟩ := hz.at_ hn0
    intro lp J Jx W hW hJ hJx hY h0
    have hlen := hz.len
    have HY := Lib.hid hY
    have HJ := Lib.hid hJ
    clear hY hJ
    have hd0 := (hW.block b hsz).trans c0
    have hlow := fun k (hk : k < B0) => hW.block k (show k < W0.heap.size by omega)
    refine callsIn_wide.2 ?_
    go_enter Tryz.func161, Tryz.ntmps161
    go_step3
    go_wp2
    go_step3
    go_wp2
    go_loopw [3, 8] (fun t3 t8 wr => ∃ i a : Nat, i ≤ 4352 ∧ a ≤ atR l i ∧ t3 = .int .i64 (a : Int) ∧ t8 = .int .i64 (i : Int) ∧ J i wr ∧ wr.heap[b]? = some (.cells #[.slice (some ⟨zb, zo, none⟩) n c] 93 (0, 0)) ∧ (∀ k, k < B0 → wr.heap[k]? = W0.heap[k]?)) (fun _ t8 _ => 4352 - (RowKit.intOf t8).toNat)
    case atStart => exact ⟨0, 0, Nat.zero_le _, Nat.zero_le _, rfl, rfl, h0, hd0, hlow⟩
    case round =>
      obtain ⟨i, a, hi, ha, rfl, rfl, hJi, d0, hlw⟩ := hrel
      obtain ⟨wo, hwo⟩ : ∃ wo, wo = wr := ⟨_, rfl⟩
      subst hwo
      have e0 : wo.cell? ⟨b, 0, none⟩ = some (.slice (some ⟨zb, zo, none⟩) n c) := cell_blk d0 0
      have Hw := Lib.hid (And.intro hJi (And.intro d0 hlw))
      have hal := atR_le l i
      have hel := endR_le l i
      have hae : atR l i ≤ endR l i := by unfold endR; omega
      have hcell : ∀ k, k < n → ∀ h : k < l.length, wo.cell? ⟨zb, zo + k * 3, none⟩ = some (.int .i64 l[k].f) ∧ wo.cell? ⟨zb, zo + k * 3 + 1, none⟩ = some (.int .i64 l[k].t) := fun k hk h =>
        ⟨(World.cell?_of_block (hlw zb hzb)).trans (hzc k h).1, (World.cell?_of_block (hlw zb hzb)).trans (hzc k h).2.1⟩
      have Hcell := Lib.hid hcell
      clear hcell
      clear hJi d0 hlw hd0 hlow h0
      rcases Nat.lt_or_ge i 4352 with hlt | hge
      · have hdec : decide ((i : Int) < 4352) = true := decide_eq_true (by omega)
        go_wp2_with fail
        go_loopw [3] (fun t3 wr => ∃ k : Nat, k ≤ atR l i ∧ t3 = .int .i64 (k : Int) ∧ wr = wo) (fun t3 _ => n - (RowKit.intOf t3).toNat)
        case atStart => exact ⟨a, ha, rfl, rfl⟩
        case round =>
          obtain ⟨k, hk, rfl, hwe⟩ := hrel
          subst hwe
          rcases Nat.lt_or_ge k (atR l i) with hka | hka
          · obtain ⟨hkl, hkt⟩ := atR_lt hka
            have hkn : k < n := by omega
            obtain ⟨u1, u2⟩ := Hcell.out k hkn hkl
            generalize l[k] = x at *
            have hkt2 : x.t < (i : Int) * 256 := by omega
            clear hkt
            go_wp2_with fail
            go_roundw
            case rel => exact ⟨k + 1, by omega, by go_num, by first | trivial | rfl⟩
            case measure => simp [RowKit.intOf]; omega
          · obtain rfl : k = atR l i := by omega
            obtain ⟨wp, hwp⟩ : ∃ wp, wp = wr := ⟨_, rfl⟩
            subst hwp
            rcases Nat.lt_or_ge (atR l i) n with han | han
            · obtain ⟨u1, u2⟩ := Hcell.out (atR l i) han (by omega)
              have hs := atR_stop (l := l) (i := i) (by omega)
              generalize (l[atR l i]'(by omega)) = x at *
              have hs2 : ¬ x.t < (i : Int) * 256 := by omega
              clear hs
              go_wp2_with fail
              clear u1 u2 hs2
              go_loopw [7] (fun t7 wr => ∃ e : Nat, atR l i ≤ e ∧ e ≤ endR l i ∧ t7 = .int .i64 (e : Int) ∧ wr = wp) (fun t7 _ => n - (RowKit.intOf t7).toNat)
              case atStart => exact ⟨atR l i, Nat.le_refl _, hae, rfl, rfl⟩
              case round =>
                obtain ⟨e, he1, he2, rfl, hwe⟩ := hrel
                subst hwe
                rcases Nat.lt_or_ge e (endR l i) with hlt2 | hge2
                · obtain ⟨hkl, hkf⟩ := endR_lt he1 hlt2
                  have hkn : e < n := by omega
                  obtain ⟨u1, u2⟩ := Hcell.out e hkn hkl
                  generalize l[e] = x at *
                  have hkf2 : x.f ≤ ((i : Int) + 1) * 256 - 1 := by omega
                  clear hkf
                  go_wp2_with fail
                  go_roundw
                  case rel => exact ⟨e + 1, by omega, by omega, by go_num, by first | trivial | rfl⟩
                  case measure => simp [RowKit.intOf]; omega
                · obtain rfl : e = endR l i := by omega
                  rcases Nat.lt_or_ge (endR l i) n with hen | hen
                  · obtain ⟨u1, u2⟩ := Hcell.out (endR l i) hen (by omega)
                    have hs := endR_stop (l := l) (i := i) (by omega)
                    generalize (l[endR l i]'(by omega)) = x at *
                    have hs2 : ¬ x.f ≤ ((i : Int) + 1) * 256 - 1 := by omega
                    clear hs
                    rcases Nat.lt_or_ge (atR l i) (endR l i) with h | h
                    · have hv : rowV (some ⟨zb, zo, none⟩) l i = .slice (some ⟨zb, zo + atR l i * 3, none⟩) (endR l i - atR l i) (endR l i - atR l i) := by unfold rowV; rw [if_neg (by omega)]; simp [Addr.add]; try omega
                      have hy := HY.out i wr (by omega) Hw.out.1
                      rw [hv] at hy
                      obtain ⟨fn, tmps, assign, body, hy, hR⟩ := hy
                      clear hv
                      go_upto_region 10 with fail
                      refine (wpIn_wide (n := 0)).1 ?_
                      gi_wp2
                      refine ⟨rfl, hR.mono ?_⟩
                      rintro e W' (⟨rfl, hJ', hk'⟩ | ⟨rfl, hJx'⟩)
                      · have d0' : W'.heap[b]? = some (.cells #[.slice (some ⟨zb, zo, none⟩) n c] 93 (0, 0)) := (hk'.own _ rfl).trans Hw.out.2.1
                        have hlw' : ∀ k, k < B0 → W'.heap[k]? = W0.heap[k]? := fun k hk => (hk'.low k hk).trans (Hw.out.2.2 k hk)
                        have hmono := atR_mono l (Nat.le_succ i)
                        have Hn := Lib.hid (And.intro hJ' (And.intro d0' (And.intro hlw' hmono)))
                        clear hJ' hk' d0' hlw' hmono
                        gi_wp2
                        go_wp2
                        go_roundw
                        case rel => exact ⟨i + 1, atR l i, by omega, Hn.out.2.2.2, rfl, by go_num, Hn.out.1, Hn.out.2.1, Hn.out.2.2.1⟩
                        case measure => simp [RowKit.intOf]; omega
                      · gi_wp2
                        go_wp2
                        simp only [Exit.noGoto]
                        go_end0
                        exact ⟨⟨_, rfl⟩, .inr ⟨i, by omega, hJx'⟩⟩
                    · have hv : rowV (some ⟨zb, zo, none⟩) l i = .slice (some ⟨zb, zo, none⟩) 0 0 := by unfold rowV; rw [if_pos (by omega), show endR l i - atR l i = 0 by omega]
                      have hy := HY.out i wr (by omega) Hw.out.1
                      rw [hv] at hy
                      obtain ⟨fn, tmps, assign, body, hy, hR⟩ := hy
                      clear hv
                      go_upto_region 10 with fail
                      refine (wpIn_wide (n := 0)).1 ?_
                      gi_wp2
                      refine ⟨rfl, hR.mono ?_⟩
                      rintro e W' (⟨rfl, hJ', hk'⟩ | ⟨rfl, hJx'⟩)
                      · have d0' : W'.heap[b]? = some (.cells #[.slice (some ⟨zb, zo, none⟩) n c] 93 (0, 0)) := (hk'.own _ rfl).trans Hw.out.2.1
                        have hlw' : ∀ k, k < B0 → W'.heap[k]? = W0.heap[k]? := fun k hk => (hk'.low k hk).trans (Hw.out.2.2 k hk)
                        have hmono := atR_mono l (Nat.le_succ i)
                        have Hn := Lib.hid (And.intro hJ' (And.intro d0' (And.intro hlw' hmono)))
                        clear hJ' hk' d0' hlw' hmono
                        gi_wp2
                        go_wp2
                        go_roundw
                        case rel => exact ⟨i + 1, atR l i, by omega, Hn.out.2.2.2, rfl, by go_num, Hn.out.1, Hn.out.2.1, Hn.out.2.2.1⟩
                        case measure => simp [RowKit.intOf]; omega
                      · gi_wp2
                        go_wp2
                        simp only [Exit.noGoto]
                        go_end0
                        exact ⟨⟨_, rfl⟩, .inr ⟨i, by omega, hJx'⟩⟩
                  · have hen2 : n ≤ endR l i := by omega
                    have hdn : decide (endR l i < n) = false := decide_eq_false (by omega)
                    have hv : rowV (some ⟨zb, zo, none⟩) l i = .slice (some ⟨zb, zo + atR l i * 3, none⟩) (endR l i - atR l i) (endR l i - atR l i) := by unfold rowV; rw [if_neg (by omega)]; simp [Addr.add]; try omega
                    have hy := HY.out i wr (by omega) Hw.out.1
                    rw [hv] at hy
                    obtain ⟨fn, tmps, assign, body, hy, hR⟩ := hy
                    clear hv
                    go_upto_region 10 with fail
                    refine (wpIn_wide (n := 0)).1 ?_
                    gi_wp2
                    refine ⟨rfl, hR.mono ?_⟩
                    rintro e W' (⟨rfl, hJ', hk'⟩ | ⟨rfl, hJx'⟩)
                    · have d0' : W'.heap[b]? = some (.cells #[.slice (some ⟨zb, zo, none⟩) n c] 93 (0, 0)) := (hk'.own _ rfl).trans Hw.out.2.1
                      have hlw' : ∀ k, k < B0 → W'.heap[k]? = W0.heap[k]? := fun k hk => (hk'.low k hk).trans (Hw.out.2.2 k hk)
                      have hmono := atR_mono l (Nat.le_succ i)
                      have Hn := Lib.hid (And.intro hJ' (And.intro d0' (And.intro hlw' hmono)))
                      clear hJ' hk' d0' hlw' hmono
                      gi_wp2
                      go_wp2
                      go_roundw
                      case rel => exact ⟨i + 1, atR l i, by omega, Hn.out.2.2.2, rfl, by go_num, Hn.out.1, Hn.out.2.1, Hn.out.2.2.1⟩
                      case measure => simp [RowKit.intOf]; omega
                    · gi_wp2
                      go_wp2
                      simp only [Exit.noGoto]
                      go_end0
                      exact ⟨⟨_, rfl⟩, .inr ⟨i, by omega, hJx'⟩⟩
            · have hdn : decide (atR l i < n) = false := decide_eq_false (by omega)
              go_wp2_with fail
              clear hdn
              go_loopw [7] (fun t7 wr => ∃ e : Nat, atR l i ≤ e ∧ e ≤ endR l i ∧ t7 = .int .i64 (e : Int) ∧ wr = wp) (fun t7 _ => n - (RowKit.intOf t7).toNat)
              case atStart => exact ⟨atR l i, Nat.le_refl _, hae, rfl, rfl⟩
              case round =>
                obtain ⟨e, he1, he2, rfl, hwe⟩ := hrel
                subst hwe
                obtain rfl : e = endR l i := by omega
                have hdn : decide (endR l i < n) = false := decide_eq_false (by omega)
                have hv : rowV (some ⟨zb, zo, none⟩) l i = .slice (some ⟨zb, zo, none⟩) (endR l i - atR l i) (endR l i - atR l i) := by unfold rowV; rw [if_pos (by omega)]
                have hy := HY.out i wr (by omega) Hw.out.1
                rw [hv] at hy
                obtain ⟨fn, tmps, assign, body, hy, hR⟩ := hy
                clear hv
                go_upto_region 10 with fail
                refine (wpIn_wide (n := 0)).1 ?_
                gi_wp2
                refine ⟨rfl, hR.mono ?_⟩
                rintro e W' (⟨rfl, hJ', hk'⟩ | ⟨rfl, hJx'⟩)
                · have d0' : W'.heap[b]? = some (.cells #[.slice (some ⟨zb, zo, none⟩) n c] 93 (0, 0)) := (hk'.own _ rfl).trans Hw.out.2.1
                  have hlw' : ∀ k, k < B0 → W'.heap[k]? = W0.heap[k]? := fun k hk => (hk'.low k hk).trans (Hw.out.2.2 k hk)
                  have hmono := atR_mono l (Nat.le_succ i)
                  have Hn := Lib.hid (And.intro hJ' (And.intro d0' (And.intro hlw' hmono)))
                  clear hJ' hk' d0' hlw' hmono
                  gi_wp2
                  go_wp2
                  go_roundw
                  case rel => exact ⟨i + 1, atR l i, by omega, Hn.out.2.2.2, rfl, by go_num, Hn.out.1, Hn.out.2.1, Hn.out.2.2.1⟩
                  case measure => simp [RowKit.intOf]; omega
                · gi_wp2
                  go_wp2
                  simp only [Exit.noGoto]
                  go_end0
                  exact ⟨⟨_, rfl⟩, .inr ⟨i, by omega, hJx'⟩⟩
      · obtain rfl : i = 4352 := by omega
        have hdec : decide (((4352 : Nat) : Int) < 4352) = false := rfl
        go_wp2_with fail
        simp only [Exit.noGoto]
        go_end0
        exact ⟨⟨_, rfl⟩, .inl Hw.out.1⟩
end Go.Vir


namespace Go.Vir
open Go Go.RowKit Go.Proofs
attribute [local go_sem] Oper.semAt_some

section
variable {F b m : Nat} {X : Nat → Prop} {W W' : World} {T : TrV} {Vi Vb : Value} {xs : List Value}
theorem TrS.keepD (h : TrS F X W T Vi Vb xs) (hs : W.heap.size ≤ W'.heap.size) (hk : ∀ k o, F ≤ k → W.heap[k]? = some o → isData o = true → W'.heap[k]? = some o) : TrS F X W' T Vi Vb xs := by
  have row : ∀ {e : TypeId} {v : Value} {n : Nat} {ys : List Value}, W.ownsRow F e 1 v n ys → W'.ownsRow F e 1 v n ys := fun hr => by
    refine ⟨hr.1, ?_⟩
    rcases hr.2 with hn | ⟨g, cap, cur, rfl, hb, hgg, rest⟩
    · exact .inl hn
    · exact .inr ⟨g, cap, cur, rfl, hb, hk g _ hb hgg rfl, rest⟩
  refine ⟨row h.ri, row h.rb, ⟨h.iv.1, fun j hj => ?_⟩, h.ne, h.xi, h.xb, by have := h.hF; omega, fun k hx => by have := h.hX k hx; omega⟩
  obtain ⟨g, c, e, hc, hF, hg, hd, hi⟩ := h.iv.2 j hj
  refine ⟨g, c, e, hc, hF, by omega, hd, hi.len, fun hn => ?_⟩
  obtain ⟨b, o, e2, hlt, hcell⟩ := hi.at_ hn
  obtain ⟨rfl, rfl⟩ : g = b ∧ 0 = o := by simpa using e2
  refine ⟨g, 0, rfl, by omega, fun i hii => ?_⟩
  have h1 := hcell i hii
  rcases hb : W.heap[g]? with _ | ob
  · simp [World.cell?, hb] at h1
  · cases ob with
    | cells cs t m => exact (World.cell?_of_block (a := ⟨g, 0 + i, none⟩) ((hk g _ hF hb rfl).trans hb.symm)).trans h1
    | _ => simp [World.cell?, hb] at h1
end
def BuS (w : World) (F b m q p : Nat) (l : List Rg) (i : Nat) (W : World) : Prop :=
  ∃ Vi Vb xs, BdS F b m (rowsT l i) Vi Vb xs W ∧ W.heap[p]? = some (.cells #[.pointer (some ⟨b, 0, none⟩)] 211 (0, 0)) ∧ W.heap[q]? = some (.cells #[.slice none 0 0, .slice none 0 0] 27 (0, 0)) ∧ Below w.heap.size w W
theorem BuS.moves {w : World} {F b m q p r B0 : Nat} {l : List Rg} {i : Nat} {A B : World} (h : BuS w F b m q p l i A) (hm : Moves B0 (fun k => k = r) A B) (hw : w.heap.size ≤ B0) (hr : w.heap.size ≤ r) (hrF : r < F) (h1 : b ≠ r) (h2 : m ≠ r) (h3 : p ≠ r) (h4 : q ≠ r) : BuS w F b m q p l i B := by
  obtain ⟨Vi, Vb, xs, hS, hp, hq, hb⟩ := h
  obtain ⟨es, ck, g1, g2⟩ := hS.mp
  exact ⟨Vi, Vb, xs, ⟨hm.cells hS.bd h1, ⟨es, ck, hm.dataObj g1 h2, g2⟩, hS.st.keepD hm.size (fun k o hk ho hd => hm.data k o ho hd (by show ¬ k = r; omega)), hS.len, hS.ne, trivial, trivial⟩, hm.cells hp h3, hm.cells hq h4, Below.moves hb hm hw (fun k hk => by have hk : k = r := hk; omega)⟩
theorem BuS.below {w : World} {F b m q p : Nat} {l : List Rg} {i : Nat} {A B : World} (h : BuS w F b m q p l i A) (hb : Below A.heap.size A B) (hs : w.heap.size ≤ A.heap.size) : BuS w F b m q p l i B := by
  obtain ⟨Vi, Vb, xs, hS, hp, hq, hbw⟩ := h
  exact ⟨Vi, Vb, xs, hS.below hb, (hb.block p (Array.getElem?_eq_some_iff.1 hp).1).trans hp, (hb.block q (Array.getElem?_eq_some_iff.1 hq).1).trans hq, hbw.trans (hb.mono hs)⟩
theorem rows_lens (l : List Rg) (i : Nat) : (rowsT l i).ix.length = i ∧ (rowsT l i).bl.length ≤ i := ⟨(rows_inv l i).len, (rows_inv l i).blen⟩
theorem BuS.step {w : World} {F b m q p r : Nat} {l : List Rg} {i : Nat} {Vi Vb : Value} {xs : List Value} {W W' : World} (hS : BdS F b m (rowsT l i) Vi Vb xs W) (hp : W.heap[p]? = some (.cells #[.pointer (some ⟨b, 0, none⟩)] 211 (0, 0)))
    (hq : W.heap[q]? = some (.cells #[.slice none 0 0, .slice none 0 0] 27 (0, 0))) (hbw : Below w.heap.size w W) (ha : AddP F b m (rowsT l (i + 1)) Vi Vb W W') (hpb : p ≠ b ∧ p ≠ m ∧ p < F) (hqb : q ≠ b ∧ q ≠ m ∧ q < F) (hbm : w.heap.size ≤ b ∧ w.heap.size ≤ m) (hwF : w.heap.size ≤ F) (hr : r ≠ b ∧ r ≠ m ∧ r < F) (hrW : r < W.heap.size) :
    BuS w F b m q p l (i + 1) W' ∧ Keeps w.heap.size (fun k => k = r) W W' := by
  obtain ⟨Vi', Vb', xs', h1, h2⟩ := ha
  have hown : ∀ k, k < F → Vi.ownBlock ≠ some k ∧ Vb.ownBlock ≠ some k := fun k hk => ⟨fun e => by have := (lt_own hS.st.ri k e).1; omega, fun e => by have := (lt_own hS.st.rb k e).1; omega⟩
  refine ⟨⟨Vi', Vb', xs', h1, (h2.blk p (Array.getElem?_eq_some_iff.1 hp).1 hpb.1 hpb.2.1 (hown p hpb.2.2).1 (hown p hpb.2.2).2).trans hp, (h2.blk q (Array.getElem?_eq_some_iff.1 hq).1 hqb.1 hqb.2.1 (hown q hqb.2.2).1 (hown q hqb.2.2).2).trans hq,
    hbw.trans ⟨h2.os, h2.tape, h2.output, h2.size, fun k hk => h2.blk k (by have := hbw.size; omega) (by omega) (by omega) (hown k (by omega)).1 (hown k (by omega)).2⟩⟩,
    h2.size, fun k hk => h2.blk k (by have := hbw.size; omega) (by omega) (by omega) (hown k (by omega)).1 (hown k (by omega)).2, fun k hk => ?_, fun k o ho hd => ?_⟩
  · have hk : k = r := hk
    subst hk
    exact h2.blk k hrW hr.1 hr.2.1 (hown k hr.2.2).1 (hown k hr.2.2).2
  · refine (h2.blk k (Array.getElem?_eq_some_iff.1 ho).1 ?_ ?_ ?_ ?_).trans ho
    · rintro rfl; rw [hS.bd] at ho; cases ho; cases hd
    · rintro rfl
      obtain ⟨es, ck, g1, _⟩ := hS.mp
      rw [g1] at ho; cases ho; cases hd
    · intro e
      obtain ⟨_, o', h3, h4⟩ := row_data hS.st.ri k e
      rw [h3] at ho; cases ho; rw [hd] at h4; cases h4
    · intro e
      obtain ⟨_, o', h3, h4⟩ := row_data hS.st.rb k e
      rw [h3] at ho; cases ho; rw [hd] at h4; cases h4
theorem rowV_rgs {W : World} {B n : Nat} {A : Option Addr} {l : List Rg} (h : Rgs W B A n l) (i : Nat) : ∃ A' n', rowV A l i = .slice A' n' n' ∧ n' ≤ n ∧ Rgs W B A' n' ((l.drop (atR l i)).take (endR l i - atR l i)) := by
  have hel := endR_le l i
  have hae : atR l i ≤ endR l i := by unfold endR; omega
  have hln := h.len
  refine ⟨_, _, rfl, by omega, by rw [List.length_take, List.length_drop]; omega, fun hn => ?_⟩
  obtain ⟨b, o, rfl, hb, hc⟩ := h.at_ (by omega)
  rw [if_neg (by omega)]
  refine ⟨b, o + atR l i * 3, by simp [Addr.add]; try omega, hb, fun j hj => ?_⟩
  rw [List.length_take, List.length_drop] at hj
  have h1 := hc (atR l i + j) (by omega)
  rw [List.getElem_take, List.getElem_drop]
  rw [show o + atR l i * 3 + j * 3 = o + (atR l i + j) * 3 by omega]
  exact h1

set_option maxRecDepth 100000 in
set_option maxHeartbeats 4000000 in
theorem trie_Build (A : Option Addr) (n c : Nat) (l : List Rg) (w : World) (hx : Rgs w w.heap.size A n l) (hn : n ≤ 600) (hnc : n ≤ c) (hl : riseR (-1) l = true) :
    Calls Tryz.prog 109 #[.slice A n c] w fun e w' => ∃ Ai ni ci Ab nb cb, e = .returned (.tuple #[.agg #[.slice Ai ni ci, .slice Ab nb cb], .int .i64 0]) ∧ ni ≤ ci ∧ nb ≤ cb ∧ Tri w' w'.heap.size Ai ni Ab nb (buildT l) ∧ Below w.heap.size w w' := by
  have hmm := @run_makeMap Tryz.prog
  have hb0 : Below w.heap.size w (w.alloc (.cells #[.slice none 0 0, .slice none 0 0] 27)) := by go_grown
  have hrt := span_Right A n c l (w.alloc (.cells #[.slice none 0 0, .slice none 0 0] 27)) ((hx.below hb0).more hb0.size) (by omega) hl
  rw [show decide ((n : Int) ≤ 600) = true from decide_eq_true (by omega)] at hrt
  have Hrt := Lib.hid hrt
  have Hx := Lib.hid hx
  have Hb0 := Lib.hid hb0
  clear hrt hx hb0
  refine (callsIn_wide (n := 0)).1 ?_
  refine callsIn_of_wp_marks Tryz.func109 rfl trivial ?_ rfl
  simp only [Tryz.ntmps109, List.size_toArray, List.length_cons, List.length_nil, Nat.reduceAdd, Nat.reduceSub, Array.replicate_succ, Array.replicate_zero, List.push_toArray, List.append_toArray, List.nil_append, List.cons_append]
  refine wpIn_wide.2 ?_
  go_wp2_with fail
  refine Hrt.out.mono ?_
  rintro e w1 ⟨rfl, hb1⟩
  have hq1 := (hb1.block w.heap.size (by simp)).trans (heap_new rfl)
  have hbw1 := Hb0.out.trans (hb1.mono Hb0.out.size)
  go_wp2_with (go_at_call 140; refine (rows_make _ _ _ _).mono ?_; rintro e w2 ⟨rfl, rfl⟩)
  clear hmm
  refine wp_gen ?_
  intro W1 hW1
  have hs1 : w.heap.size + 1 ≤ w1.heap.size := by have := hb1.size; simpa using this
  have hsz : W1.heap.size = w1.heap.size + 4 := by simp [hW1]
  have hbA : Below w1.heap.size w1 W1 := by rw [hW1]; go_grown
  have d1 : W1.heap[w1.heap.size]? = some (.map #[] 0) := (by rw [hW1]; simp (disch := (first | omega | (simp only [World.size_alloc]; done) | (simp only [World.size_alloc]; omega))) only [heap_laws])
  have d2 : W1.heap[w1.heap.size + 1]? = some (.cells #[.slice none 0 0, .slice none 0 0, .map (some w1.heap.size)] 214 (0, 0)) := (by rw [hW1]; simp (disch := (first | omega | (simp only [World.size_alloc]; done) | (simp only [World.size_alloc]; omega))) only [heap_laws])
  have d3 : W1.heap[w1.heap.size + 2]? = some (.cells #[.pointer (some ⟨w1.heap.size + 1, 0, none⟩)] 211 (0, 0)) := (by rw [hW1]; simp (disch := (first | omega | (simp only [World.size_alloc]; done) | (simp only [World.size_alloc]; omega))) only [heap_laws])
  have d4 : W1.heap[w1.heap.size + 3]? = some (.cells #[.slice A n c] 93 (0, 0)) := (by rw [hW1]; simp (disch := (first | omega | (simp only [World.size_alloc]; done) | (simp only [World.size_alloc]; omega))) only [heap_laws])
  have dq := (hbA.block w.heap.size (by omega)).trans hq1
  have hbW1 : Below w.heap.size w W1 := hbw1.trans (hbA.mono hbw1.size)
  have hit := rows_iter w.heap.size (w1.heap.size + 3) A n c l W1 (by omega) (by omega) (by omega) hnc hl d4 (Hx.out.below hbW1)
  have hst0 : BuS w (w1.heap.size + 4) (w1.heap.size + 1) w1.heap.size w.heap.size (w1.heap.size + 2) l 0 W1 :=
    ⟨_, _, [], ⟨d2, ⟨#[], 0, d1, rfl⟩, TrS.nil (by omega) (fun k hk => by rcases hk with rfl | rfl <;> omega), (fun y hy => by cases hy), by omega, trivial, trivial⟩, d3, dq, hbW1⟩
  have Hit := Lib.hid hit
  have Hst0 := Lib.hid hst0
  have HbW1 := Lib.hid hbW1
  clear hit hst0 hW1 d1 d2 d3 d4 dq hq1 hbA hbW1 hb1 Hrt
  refine (wpIn_wide (n := 0)).1 ?_
  refine range_law (a₁ := ?a1) (O := fun k => k = w1.heap.size + 3) (B0 := w.heap.size) (W0 := W1) rfl (enters_of Tryz.func161 (by kernel_rfl) rfl) Hit.out (Below.refl _ _) (fun k hk => ?hO) (by omega) (fun _ => rfl)
    (fun i W => BuS w (w1.heap.size + 4) (w1.heap.size + 1) w1.heap.size w.heap.size (w1.heap.size + 2) l i W)
    (fun i c W => False)
    (fun i X Y hi hm => ?hI) (fun i c X Y hi hm => hi) Hst0.out ?assign ?body ?done ?stop
  case hO => have hk : k = w1.heap.size + 3 := hk; omega
  case hI => exact hi.moves hm (Nat.le_refl _) (by omega) (by omega) (by omega) (by omega) (by omega) (by omega)
  case assign =>
    intro lp i W K hK
    gi_wp2
    exact hK
  case body =>
    rintro lp i W hi hst hsW
    have hst2 := hst
    obtain ⟨Vi, Vb, xs, hS, hp, hq, hbW⟩ := hst
    obtain ⟨A', n', hv, hn', hr⟩ := rowV_rgs (Hx.out.below hbW) i
    have e1 : W.cell? ⟨w1.heap.size + 2, 0, none⟩ = some (.pointer (some ⟨w1.heap.size + 1, 0, none⟩)) := cell_blk hp 0
    have hfill := trie_fill i A' n' n' _ W.drew ((hr.below (Below.refl _ _).drew).more hbW.size) (by omega) hi
    rw [row_says hl] at hfill
    have Hfill := Lib.hid hfill
    have HS := Lib.hid (And.intro hS (And.intro hp (And.intro hq hbW)))
    clear hst2 hr hfill hS hp hq hbW
    rw [hv]
    clear hv
    gi_wp2
    refine wpIn_held_tail 3 (fun V => V.cell? ⟨w1.heap.size + 2, 0, none⟩ = some (.pointer (some ⟨w1.heap.size + 1, 0, none⟩)))
      (by kernel_rfl) (by kernel_rfl) (by kernel_rfl) rfl (by decide) (by kernel_rfl) (by kernel_rfl) (by kernel_rfl) e1 ?_
    simp only [List.take_succ_cons, List.take_zero]
    refine ⟨.pointer (some ⟨w1.heap.size + 1, 0, none⟩), .inl ⟨rfl, fun V hV => by go_simp⟩, ?_⟩
    refine ⟨.int .i64 (i : Int), .inl ⟨rfl, fun V hV => by go_simp⟩, ?_⟩
    refine ⟨.slice A' n' n', .inl ⟨rfl, fun V hV => by go_simp⟩, ?_⟩
    refine ⟨rfl, ?_⟩
    go_simp
    refine ⟨trivial, rfl, (callsIn_round Hfill.out).mono ?_⟩
    rintro e w7 ⟨rfl, hb7⟩
    obtain ⟨hS, hp, hq, hbW⟩ := HS.out
    have hbd : Below W.heap.size W w7 := (Below.refl _ W).drew.trans hb7
    refine ⟨cell_blk ((hbd.block _ (by omega)).trans hp) 0, ?_⟩
    have hS7 := hS.below hbd
    have hbl : (blockT l i).length = 256 := block_len l i
    have hadd := builder_add _ _ _ _ _ _ _ (blockT l i) w7 hS7 hbl (by have := (rows_lens l i).1; omega) (by have := (rows_lens l i).2; omega)
    have Hadd := Lib.hid hadd
    clear hadd
    gi_wp2
    refine ⟨trivial, rfl, (callsIn_round Hadd.out).mono ?_⟩
    rintro e w8 ⟨⟨v, rfl⟩, ha⟩
    have hw1 := HbW1.out.size
    obtain ⟨h1, h2⟩ := BuS.step hS7 ((hbd.block _ (by omega)).trans hp) ((hbd.block _ (by omega)).trans hq) (hbW.trans (hbd.mono hbW.size)) ha ⟨by omega, by omega, by omega⟩ ⟨by omega, by omega, by omega⟩ ⟨by omega, by omega⟩ (by omega) (r := w1.heap.size + 3) ⟨by omega, by omega, by omega⟩ (by have := hbd.size; omega)
    gi_wp2
    exact ⟨(Keeps.below (fun k hk => by have hk : k = w1.heap.size + 3 := hk; omega) hbW.size hbd).trans h2, h1⟩
  case done =>
    rintro D W hD hst hK
    have hT : buildT l = rowsT l 4352 := by unfold buildT; rfl
    unfold BuS at hst
    generalize rowsT l 4352 = T at hst hT
    have HT := Lib.hid hT
    obtain ⟨Vi, Vb, xs, hS, hp, hq, hbW⟩ := hst
    obtain ⟨Ai, ni, ci, Ab, nb, cb, rfl, rfl, h1, h2, htri⟩ := hS.st.tri
    have hs2 := HbW1.out.size
    have hW1D : W1.heap.size ≤ D := hD
    have e1 := cell_blk hp 0
    have e2 := cell_blk hS.bd 0
    have e3 := cell_blk hS.bd 1
    have e4 := cell_blk hq 0
    have e5 := cell_blk hq 1
    have e6 := frozen_blk hq 0
    have e7 := frozen_blk hq 1
    have Htri := Lib.hid htri
    have Hq := Lib.hid hq
    have HbW := Lib.hid hbW
    have Hst := Lib.hid hS.st
    clear hT htri hq hbW hS hp
    go_wp2
    obtain ⟨V, hV⟩ : ∃ V, (W.setCell ⟨w.heap.size, 0, none⟩ (.slice Ai ni ci)).setCell ⟨w.heap.size, 1, none⟩ (.slice Ab nb cb) = V := ⟨_, rfl⟩
    have hne : w.heap.size ≠ D := by omega
    have hsV : V.heap.size = W.heap.size := by rw [← hV]; simp [World.setCell]
    have hk : ∀ k, k ≠ w.heap.size → V.heap[k]? = W.heap[k]? := fun k hk => by
      rw [← hV]; exact (Below.heap_setCell _ _ _ _ hk).trans (Below.heap_setCell _ _ _ _ hk)
    have hD2 : V.heap[D]? = some (.deferred (some [])) := (hk D (Ne.symm hne)).trans hK
    have hc0 : V.heap[w.heap.size]? = some (.cells #[.slice Ai ni ci, .slice Ab nb cb] 27 (0, 0)) := by
      rw [← hV]; simp [World.setCell, Array.getElem?_modify, Hq.out]
    have hbV : Below w.heap.size w V := by rw [← hV]; exact (HbW.out.setCell (by simp) _).setCell (by simp) _
    rw [hV]
    clear hV
    refine ⟨by simp, .inl ⟨_, _, rfl, run_takeDeferred hD2, ?_⟩⟩
    have f0 := cell_blk ((World.putObj_heap_other (o := .deferred none) hne).trans hc0) 0
    have f1 := cell_blk ((World.putObj_heap_other (o := .deferred none) hne).trans hc0) 1
    refine ⟨.tuple #[.agg #[.slice Ai ni ci, .slice Ab nb cb], .int .i64 0], by simp [results, Tryz.results109, go_sem, f0, f1], ?_⟩
    have hst2 := Hst.out.keepD (W' := V.putObj D (.deferred none)) (by simp [hsV]) (fun k o hF ho hd => by
      have hkD : k ≠ D := by rintro rfl; rw [hK] at ho; cases ho; cases hd
      exact (World.putObj_heap_other hkD).trans ((hk k (by omega)).trans ho))
    obtain ⟨Ai', ni', ci', Ab', nb', cb', g1, g2, g3, g4, g5⟩ := hst2.tri
    cases g1
    cases g2
    exact ⟨_, _, _, _, _, _, rfl, g3, g4, by rw [HT.out]; exact g5, below_putObj hbV (by omega)⟩
  case stop =>
    rintro D i c W hD hi hx hK
    exact hx.elim
end Go.Vir


namespace Go.Vir
open Go

theorem mapsM_step (last : Int) {l : List MpV} {k : Nat} (h : k < l.length) : mapsM last (l.drop k) = (scaR l[k].f && (decide (last < l[k].f) && (allM l[k].ts && mapsM l[k].f (l.drop (k + 1))))) := by
  rw [List.drop_eq_getElem_cons h]
  rfl
theorem mapsM_end (last : Int) {l : List MpV} {k : Nat} (h : l.length ≤ k) : mapsM last (l.drop k) = true := by
  rw [List.drop_eq_nil_of_le h]
  rfl
end Go.Vir

