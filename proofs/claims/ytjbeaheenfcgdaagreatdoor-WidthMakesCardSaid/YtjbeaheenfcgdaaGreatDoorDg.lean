/- Joined texts: TrG, Rf1, TrC. -/
import Derived.Test.YtjbeaheenfcgdaaGreatDoorDf
import Derived.Test.YtjbeaheenfcgdaaGreatDoorDa
import Derived.Test.YtjbeaheenfcgdaaGreatDoorDe
import Derived.Lib.Hide
import Derived.Deep.Cut
import Derived.BigQuiet
import Derived.Deep.QuietTactic
namespace Go.Vir
open Go Go.RowKit Go.Proofs
attribute [local go_sem] Oper.semAt_some

structure BdS (F b m : Nat) (T : TrV) (Vi Vb : Value) (xs : List Value) (W : World) : Prop where
  bd : W.heap[b]? = some (.cells #[Vi, Vb, .map (some m)] 146 (0, 0))
  mp : ∃ es ck, W.heap[m]? = some (.map es ck) ∧ AscB es (kvL T.bl 0)
  st : TrS F (fun k => k = b ∨ k = m) W T Vi Vb xs
  len : ∀ y ∈ T.bl, y.length = 256
  ne : b ≠ m
  fb : True
  fm : True
structure BdF (b m : Nat) (Vi Vb : Value) (W W' : World) : Prop where
  os : W'.os = W.os
  tape : W'.tape = W.tape
  output : W'.output = W.output
  size : W.heap.size ≤ W'.heap.size
  blk : ∀ k, k < W.heap.size → k ≠ b → k ≠ m → Vi.ownBlock ≠ some k → Vb.ownBlock ≠ some k → W'.heap[k]? = W.heap[k]?

def AddP (F b m : Nat) (T : TrV) (Vi Vb : Value) (w w' : World) : Prop := ∃ Vi' Vb' xs', BdS F b m T Vi' Vb' xs' w' ∧ BdF b m Vi Vb w w'

theorem exec_load_blk {a : Act} {o : Oper} {V : World} {x : Operand} {bx : Nat} {C : Array Value} (ho : o.op = .load 152 x) (hx : a.eval x = .pointer (some ⟨bx, 0, none⟩)) (hg : V.heap[bx]? = some (.cells C 152 (0, 0))) (hs : C.size = 256) :
    (execOp a.eval o).run Tryz.prog V = .ok (.value (.agg C)) V := by
  unfold execOp
  simp only [ho, hx, Instr.loadAt, Instr.sureAddr, Sem.run_bind, Sem.run_pure, Result.andThen_ok, run_loadVar_row V bx 152 152 C (0, 0) _ hg Tryz.underlying152 rfl (by rw [hs]; exact blk_size)]
theorem exec_look_blk {a : Act} {o : Oper} {V : World} {mo ko : Operand} {m : Nat} {x : List Int} {kvs : KB} {es : Array MapEntry} {ck : Nat} (ho : o.op = .lookup 144 mo ko true) (hm : a.eval mo = .map (some m)) (hk : a.eval ko = blkV x)
    (hg : V.heap[m]? = some (.map es ck)) (ha : AscB es kvs) (hn : ∀ y ∈ kvs, y.1.length = 256) (hx : x.length = 256) :
    (execOp a.eval o).run Tryz.prog V = .ok (.value (.tuple #[.int .i64 ((valB2 x kvs).getD 0), .bool (valB2 x kvs).isSome])) V := by
  have h := run_look_kb (P := Tryz.prog) (w := V) (k := x) true Tryz.underlying144 Tryz.underlying152 Tryz.underlying3 (fun w => Tryz.sizeOf3 w) (Tryz.zeroValue3 V) hg ha hn hx
  unfold execOp
  simp only [ho, hm, hk, Sem.run_bind, Sem.run_pure, h, Result.andThen_ok, if_true]

section
variable {F b m : Nat} {T : TrV} {Vi Vb Vi2 Vb2 : Value} {xs : List Value} {W U V V3 V5 V6 : World}
theorem BdF.refl (b m : Nat) (Vi Vb : Value) (W : World) : BdF b m Vi Vb W W := ⟨rfl, rfl, rfl, Nat.le_refl _, fun _ _ _ _ _ _ => rfl⟩
theorem BdF.trans (h : BdF b m Vi Vb W U) (k : BdF b m Vi2 Vb2 U V) (hi : ∀ q, q < W.heap.size → Vi.ownBlock ≠ some q → Vi2.ownBlock ≠ some q) (hb : ∀ q, q < W.heap.size → Vb.ownBlock ≠ some q → Vb2.ownBlock ≠ some q) : BdF b m Vi Vb W V :=
  ⟨k.os.trans h.os, k.tape.trans h.tape, k.output.trans h.output, Nat.le_trans h.size k.size, fun q hq h1 h2 h3 h4 => (k.blk q (Nat.lt_of_lt_of_le hq h.size) h1 h2 (hi q hq h3) (hb q hq h4)).trans (h.blk q hq h1 h2 h3 h4)⟩
theorem BdF.below (h : Below W.heap.size W U) : BdF b m Vi Vb W U := ⟨h.os, h.tape, h.output, h.size, fun k hk _ _ _ _ => h.block k hk⟩
theorem BdS.below (h : BdS F b m T Vi Vb xs W) (hb : Below W.heap.size W U) : BdS F b m T Vi Vb xs U :=
  ⟨(hb.block b (Array.getElem?_eq_some_iff.1 h.bd).1).trans h.bd, (by obtain ⟨es, ck, h1, h2⟩ := h.mp; exact ⟨es, ck, (hb.block m (Array.getElem?_eq_some_iff.1 h1).1).trans h1, h2⟩), h.st.below hb, h.len, h.ne, h.fb, h.fm⟩
theorem BdS.fin {nn : Int} (hS : BdS F b m T Vi Vb xs V) (o : Obj) (hr : V6.ownsRow F 3 1 Vi2 (T.ix.length + 1) (T.ix.map intC ++ [intC nn])) (hg : (V.alloc o).grownBy V6 Vi.ownBlock) (hat : Vi2.ownBlock = Vi.ownBlock ∨ Vi2.ownBlock = some (V.alloc o).heap.size) :
    V6.cell? ⟨b, 0, none⟩ = some Vi ∧ V6.frozen? ⟨b, 0, none⟩ = false ∧ BdS F b m { ix := T.ix ++ [nn], bl := T.bl } Vi2 Vb xs (V6.setCell ⟨b, 0, none⟩ Vi2) ∧ BdF b m Vi Vb V (V6.setCell ⟨b, 0, none⟩ Vi2) := by
  have hbV : Below V.heap.size V (V.alloc o) := (Below.refl _ V).alloc (Nat.le_refl _) o
  have hS2 := hS.below hbV
  have hbl : b < (V.alloc o).heap.size := (Array.getElem?_eq_some_iff.1 hS2.bd).1
  have h6 : V6.heap[b]? = some (.cells #[Vi, Vb, .map (some m)] 146 (0, 0)) := (hg.block b hbl (fun e => hS.st.xi b e.symm (.inl rfl))).trans hS2.bd
  have hst := hS2.st.addIx hr hg (hat.imp id fun e => ⟨_, Nat.le_refl _, e⟩)
  have hne : ∀ k, k ≠ b → (V6.setCell ⟨b, 0, none⟩ Vi2).heap[k]? = V6.heap[k]? := fun k hk => Below.heap_setCell _ _ _ _ hk
  refine ⟨cell_blk h6 0, frozen_blk h6 0, ⟨by simpa using setCell_blk h6 0 Vi2, ?_, hst.keep (by simp [World.setCell]) (fun k _ hx => hne k (fun e => hx (.inl e))), hS.len, hS.ne, hS.fb, hS.fm⟩, hg.os, hg.tape, hg.output, by have := hg.size; simp [World.setCell] at this ⊢; omega, fun k hk h1 h2 h3 h4 => (hne k h1).trans ((hg.block k (Nat.lt_of_lt_of_le hk hbV.size) (fun e => h3 e.symm)).trans (hbV.block k hk))⟩
  obtain ⟨es, ck, h1, h2⟩ := hS2.mp
  exact ⟨es, ck, (hne m hS.ne.symm).trans ((hg.block m (Array.getElem?_eq_some_iff.1 h1).1 (fun e => hS.st.xi m e.symm (.inr rfl))).trans h1), h2⟩
theorem BdS.mid {x : List Int} {es : Array MapEntry} {ck g c : Nat} (hbd : U.heap[b]? = some (.cells #[Vi, Vb, .map (some m)] 146 (0, 0))) (hm : U.heap[m]? = some (.map es ck)) (ha : AscB es (kvL (T.bl ++ [x]) 0))
    (st : TrS F (fun k => k = b ∨ k = m) U T Vi Vb xs) (hlen : ∀ y ∈ T.bl, y.length = 256) (hne : b ≠ m) (hfb : True) (hfm : True) (hx : x.length = 256) (h3 : Below U.heap.size U V3) (hg1 : U.heap.size ≤ g) (hg2 : g < V3.heap.size) (hc : 256 ≤ c) (hgi : Ints V3 V3.heap.size (some ⟨g, 0, none⟩) 256 x)
    (o : Obj) (hr : V5.ownsRow F 37 1 Vb2 (T.bl.length + 1) (xs ++ [.slice (some ⟨g, 0, none⟩) 256 c])) (hg : (V3.alloc o).grownBy V5 Vb.ownBlock) (hat : Vb2.ownBlock = Vb.ownBlock ∨ Vb2.ownBlock = some (V3.alloc o).heap.size) :
    BdS F b m { ix := T.ix, bl := T.bl ++ [x] } Vi Vb2 (xs ++ [.slice (some ⟨g, 0, none⟩) 256 c]) (V5.setCell ⟨b, 1, none⟩ Vb2) ∧ BdF b m Vi Vb U (V5.setCell ⟨b, 1, none⟩ Vb2) ∧ (∀ q, q < U.heap.size → Vb.ownBlock ≠ some q → Vb2.ownBlock ≠ some q) := by
  have hbV : Below V3.heap.size V3 (V3.alloc o) := (Below.refl _ V3).alloc (Nat.le_refl _) o
  have hb2 : Below U.heap.size U (V3.alloc o) := h3.trans (hbV.mono h3.size)
  have st2 := st.below hb2
  have hbl : b < U.heap.size := (Array.getElem?_eq_some_iff.1 hbd).1
  have hml : m < U.heap.size := (Array.getElem?_eq_some_iff.1 hm).1
  have hs4 := hb2.size
  have h5 : V5.heap[b]? = some (.cells #[Vi, Vb, .map (some m)] 146 (0, 0)) := (hg.block b (by omega) (fun e => st.xb b e.symm (.inl rfl))).trans ((hb2.block b hbl).trans hbd)
  have hnk : ∀ k, k ≠ b → (V5.setCell ⟨b, 1, none⟩ Vb2).heap[k]? = V5.heap[k]? := fun k hk => Below.heap_setCell _ _ _ _ hk
  have hi4 : Ints (V3.alloc o) (V3.alloc o).heap.size (some ⟨g, 0, none⟩) 256 x := (hgi.below hbV).more hbV.size
  rw [← hx] at hi4 hr hc ⊢
  have hst := st2.addBl (g := g) (c := c) (x := x) (by have := st.hF; omega) (by have := hbV.size; omega) (by rintro (e | e) <;> omega) (fun e => by have := (lt_own st.ri g e).2; omega) (fun e => by have := (lt_own st.rb g e).2; omega) hc hi4 hr hg (hat.imp id fun e => ⟨_, Nat.le_refl _, e⟩)
  refine ⟨⟨by simpa using setCell_blk h5 1 Vb2, ⟨es, ck, (hnk m hne.symm).trans ((hg.block m (by omega) (fun e => st.xb m e.symm (.inr rfl))).trans ((hb2.block m hml).trans hm)), ha⟩, hst.keep (by simp [World.setCell]) (fun k _ hx => hnk k (fun e => hx (.inl e))), fun y hy => ?_, hne, hfb, hfm⟩,
    ⟨hg.os.trans hb2.os, hg.tape.trans hb2.tape, hg.output.trans hb2.output, by have := hg.size; simp only [World.setCell, Array.size_modify] at this ⊢; omega, fun k hk h1 h2 h3 h4 => (hnk k h1).trans ((hg.block k (by omega) (fun e => h4 e.symm)).trans (hb2.block k hk))⟩, fun q hq h e => ?_⟩
  · rcases List.mem_append.1 hy with h | h
    · exact hlen y h
    · rw [List.mem_singleton.1 h]; exact hx
  · rcases hat with e2 | e2
    · exact h (e2 ▸ e)
    · rw [e2] at e; have := Option.some.inj e; omega
end

set_option maxRecDepth 100000 in
set_option maxHeartbeats 8000000 in
theorem builder_add (F b m : Nat) (T : TrV) (Vi Vb : Value) (xs : List Value) (x : List Int) (w : World) (hS : BdS F b m T Vi Vb xs w) (hx : x.length = 256) (hi : T.ix.length ≤ 100000) (hbl : T.bl.length ≤ 100000) :
    Calls Tryz.prog 100 #[.pointer (some ⟨b, 0, none⟩), blkV x] w fun e w' => (∃ v, e = .returned v) ∧ AddP F b m (putT T x) Vi Vb w w' := by
  obtain ⟨es, ck, hm, ha⟩ := hS.mp
  obtain ⟨i0, hi0, hz0, hz1, hz2⟩ := info_parts ints_info
  obtain ⟨j0, hj0, jz0, jz1, jz2⟩ := info_parts zint_info
  have hkn : ∀ y ∈ kvL T.bl 0, y.1.length = 256 := fun y hy => hS.len _ (kvL_mem T.bl 0 y hy)
  have hlk := fun (V : World) (a : Act) (o : Oper) (mo ko : Operand) (ho : o.op = .lookup 144 mo ko true) (h1 : a.eval mo = .map (some m)) (h2 : a.eval ko = blkV x) (hg : V.heap[m]? = some (.map es ck)) => exec_look_blk ho h1 h2 hg ha hkn hx
  rw [kvL_val, Nat.zero_add] at hlk
  have hcs : (blkC x).size = 256 := by rw [blkC_size, hx]
  have hbC : blkV x = .agg (blkC x) := rfl
  have hbw : Below w.heap.size w (w.alloc (.cells (blkC x) 152)) := by go_grown
  have hS1 := hS.below hbw
  have hg1 : (w.alloc (.cells (blkC x) 152)).heap[w.heap.size]? = some (.cells (blkC x) 152 (0, 0)) := heap_new rfl
  have hm1 := (hbw.block m (Array.getElem?_eq_some_iff.1 hm).1).trans hm
  have hml : m < w.heap.size := (Array.getElem?_eq_some_iff.1 hm).1
  have hbw1 : b < w.heap.size := (Array.getElem?_eq_some_iff.1 hS.bd).1
  obtain ⟨Ab, cb, rfl⟩ : ∃ A c, Vb = .slice A T.bl.length c := by
    rcases hS.st.rb.2 with ⟨e, h0⟩ | ⟨g, cap, cur, e, _⟩
    · exact ⟨none, 0, by rw [e, h0]⟩
    · exact ⟨_, _, e⟩
  have hput : putT T x = { ix := T.ix ++ [(T.bl.idxOf x : Int)], bl := if x ∈ T.bl then T.bl else T.bl ++ [x] } := rfl
  have Hput := Lib.hid hput
  have HCs := Lib.hid hcs
  have Hbw := Lib.hid hbw
  have HS1 := Lib.hid hS1
  have Hm1 := Lib.hid hm1
  have Hha := Lib.hid ha
  have HbC := Lib.hid hbC
  have Hx := Lib.hid hx
  have Hmw := Lib.hid (And.intro hml hbw1)
  have hG1 := Lib.hid hg1
  have Hkn := Lib.hid hkn
  by_cases hmem : x ∈ T.bl
  · rw [if_pos hmem] at hlk hput
    simp only [Option.getD_some, Option.isSome_some] at hlk
    have hput2 : putT T x = { ix := T.ix ++ [(T.bl.idxOf x : Int)], bl := T.bl } := by rw [Hput.out, if_pos hmem]
    have hnb : T.bl.idxOf x < T.bl.length := List.idxOf_lt_length_of_mem hmem
    generalize hnv : ((T.bl.idxOf x : Nat) : Int) = nv at *
    have Hput2 := Lib.hid hput2
    rw [hbC] at hlk ⊢
    generalize blkC x = C at *
    have Hlk := Lib.hid hlk
    clear hput hlk hput2 hbC hcs hx hbw hS1 hg1 hm1 hS hm ha hmem hnv hnb hkn Hput
    go_enter Tryz.func100, Tryz.ntmps100
    go_upto_region 1 with fail
    have x0 : (w.alloc (.cells C 152)).drew.cell? ⟨b, 2, none⟩ = some (.map (some m)) := cell_blk HS1.out.bd 2
    have x1 : (w.alloc (.cells C 152)).drew.heap[w.heap.size]? = some (.cells C 152 (0, 0)) := hG1.out
    have x2 : (w.alloc (.cells C 152)).drew.heap[m]? = some (.map es ck) := Hm1.out
    have hSd := HS1.out.below (Below.refl _ _).drew
    have hbd := Hbw.out.drew
    generalize hbx : w.heap.size = bx at *
    generalize w.alloc (.cells C 152) = W1 at *
    have HSd := Lib.hid hSd
    have Hbd := Lib.hid hbd
    clear hSd hbd HS1 Hm1 hG1
    refine wp_region_noPanic ?_
    refine wp_region_held_drew (S := (fun V => V.cell? ⟨b, 2, none⟩ = some (.map (some m)) ∧ V.heap[bx]? = some (.cells C 152 (0, 0)) ∧ V.heap[m]? = some (.map es ck))) (by kernel_rfl) ⟨x0, x1, x2⟩ (fun hHeld => ?_)
    refine wpAnyH_take (i := 0) (v := .pointer (some ⟨b, 0, none⟩)) rfl (by kernel_rfl) (by kernel_rfl) (by kernel_rfl) (fun _ _ _ h => h) (.inl ⟨by rfl, fun V hV => by obtain ⟨c0, c1, c2⟩ := hV; go_simp⟩) hHeld ?_
    try simp only [Act.put, qB, qC, qE, qF, qG]
    refine wpAnyH_take (i := 1) (v := .pointer (some ⟨b, 0, none⟩)) rfl (by kernel_rfl) (by kernel_rfl) (by kernel_rfl) (fun _ _ _ h => h) (.inl ⟨by rfl, fun V hV => by obtain ⟨c0, c1, c2⟩ := hV; go_simp⟩) hHeld ?_
    try simp only [Act.put, qB, qC, qD, qE, qF, qG]
    refine wpAnyH_take (i := 2) (v := .pointer (some ⟨b, 2, none⟩)) rfl (by kernel_rfl) (by kernel_rfl) (by kernel_rfl) (fun _ _ _ h => h) (.inl ⟨by rfl, fun V hV => by obtain ⟨c0, c1, c2⟩ := hV; go_simp⟩) hHeld ?_
    try simp only [Act.put, qB, qC, qD, qE, qF, qG]
    refine wpAnyH_take (i := 3) (v := .map (some m)) rfl (by kernel_rfl) (by kernel_rfl) (by kernel_rfl) (fun _ _ _ h => h) (.inl ⟨by rfl, fun V hV => by obtain ⟨c0, c1, c2⟩ := hV; go_simp⟩) hHeld ?_
    try simp only [Act.put, qB, qC, qD, qE, qF, qG]
    refine wpAnyH_take (i := 4) (v := .agg C) rfl (by kernel_rfl) (by kernel_rfl) (by kernel_rfl) (fun _ _ _ h => h) (.inl ⟨by rfl, fun V hV => by obtain ⟨c0, c1, c2⟩ := hV; exact exec_load_blk rfl rfl c1 HCs.out⟩) hHeld ?_
    try simp only [Act.put, qB, qC, qD, qE, qF, qG]
    refine wpAnyH_take (i := 5) (v := .tuple #[.int .i64 nv, .bool true]) rfl (by kernel_rfl) (by kernel_rfl) (by kernel_rfl) (fun _ _ _ h => h) (.inl ⟨by rfl, fun V hV => by obtain ⟨c0, c1, c2⟩ := hV; exact (Hlk.out _ _ _ _ _ rfl rfl rfl c2)⟩) hHeld ?_
    try simp only [Act.put, qB, qC, qD, qE, qF, qG]
    refine wpAnyH_take (i := 6) (v := .tuple #[.int .i64 nv, .bool true]) rfl (by kernel_rfl) (by kernel_rfl) (by kernel_rfl) (fun _ _ _ h => h) (.inl ⟨by rfl, fun V hV => by obtain ⟨c0, c1, c2⟩ := hV; go_simp⟩) hHeld ?_
    try simp only [Act.put, qB, qC, qD, qE, qF, qG]
    refine wpAnyH_take (i := 7) (v := .int .i64 nv) rfl (by kernel_rfl) (by kernel_rfl) (by kernel_rfl) (fun _ _ _ h => h) (.inl ⟨by rfl, fun V hV => by obtain ⟨c0, c1, c2⟩ := hV; go_simp⟩) hHeld ?_
    try simp only [Act.put, qB, qC, qD, qE, qF, qG]
    refine wpAnyH_take (i := 8) (v := .bool true) rfl (by kernel_rfl) (by kernel_rfl) (by kernel_rfl) (fun _ _ _ h => h) (.inl ⟨by rfl, fun V hV => by obtain ⟨c0, c1, c2⟩ := hV; go_simp⟩) hHeld ?_
    try simp only [Act.put, qB, qC, qD, qE, qF, qG]
    refine wpAnyH_take (i := 9) (v := .int .i64 nv) rfl (by kernel_rfl) (by kernel_rfl) (by kernel_rfl) (fun _ _ _ h => h) (.inl ⟨by rfl, fun V hV => by obtain ⟨c0, c1, c2⟩ := hV; go_simp⟩) hHeld ?_
    try simp only [Act.put, qB, qC, qD, qE, qF, qG]
    refine wpAnyH_take (i := 10) (v := .bool true) rfl (by kernel_rfl) (by kernel_rfl) (by kernel_rfl) (fun _ _ _ h => h) (.inl ⟨by rfl, fun V hV => by obtain ⟨c0, c1, c2⟩ := hV; go_simp⟩) hHeld ?_
    try simp only [Act.put, qB, qC, qD, qE, qF, qG]
    refine wpAnyH_done (by kernel_rfl) ?_ _
    refine NoPanic.normal ?_
    generalize W1.drew = V1 at *
    clear x0 x1 x2 hHeld
    have e0 : V1.cell? ⟨b, 0, none⟩ = some Vi := cell_blk HSd.out.bd 0
    have hc1 := cell_one_new V1 (.int .i64 nv) 3
    have hri := HSd.out.st.ri.alloc (.cells #[.int .i64 nv] 3)
    have hfs := HSd.out.st.hF
    have hri' : (V1.alloc (.cells #[.int .i64 nv] 3)).ownsRow F 3 1 Vi T.ix.length (T.ix.map intC) := hri
    go_wp2_with (at_builtin; refine wpList_append_at _ rfl _ _ 37 rfl F 3 j0 (.int .i64 0) 1 8 Tryz.underlying37 hj0 jz0 jz1 jz2 rfl (by decide) Vi T.ix.length (T.ix.map intC) rfl hri' ⟨V1.heap.size, 0, none⟩ 1 1 [.int .i64 nv] rfl rfl hc1 ?qone ?qb1 ?qb2 ?qb3 ?_)
    case qone => first | rfl | (intro u hu; simp at hu; subst hu; rfl)
    case qb1 => simp only [maxLen]; omega
    case qb2 => omega
    case qb3 => first | omega | (simp; omega)
    intro Vi2 V7 hown7 hg7 hat7
    obtain ⟨g7, cap7, rfl⟩ := ownsRow_succ hown7
    obtain ⟨e7, f7, hfin1, hfin2⟩ := HSd.out.fin (nn := nv) _ hown7 hg7 (by rw [World.size_alloc]; exact hat7)
    have Hf := Lib.hid (And.intro hfin1 hfin2)
    clear hfin1 hfin2 hown7 hg7 hat7
    go_wp2_with fail
    go_end0
    exact ⟨⟨_, rfl⟩, _, _, xs, by rw [Hput2.out]; exact Hf.out.1, (BdF.below (by rw [hbx]; exact Hbd.out)).trans Hf.out.2 (fun _ _ h => h) (fun _ _ h => h)⟩
  · rw [if_neg hmem] at hlk
    simp only [Option.getD_none, Option.isSome_none] at hlk
    have hput2 : putT T x = { ix := T.ix ++ [(T.bl.length : Int)], bl := T.bl ++ [x] } := by rw [Hput.out, if_neg hmem, List.idxOf_eq_length hmem]
    have hv0 : valB2 x (kvL T.bl 0) = none := by rw [kvL_val, if_neg hmem]
    obtain ⟨es2, ck2, hup, ha2⟩ : ∃ es2 ck2, (∀ V : World, V.heap[m]? = some (.map es ck) → (Instr.mapUpdate 144 (.map (some m)) (blkV x) (.int .i64 (T.bl.length : Int))).run Tryz.prog V = .ok () (V.putObj m (.map es2 ck2))) ∧ AscB es2 (kvL T.bl 0 ++ [(x, (T.bl.length : Int))]) :=
      run_new_any (P := Tryz.prog) (T.bl.length : Int) Tryz.underlying144 Tryz.underlying152 Tryz.underlying3 (fun w => Tryz.sizeOf3 w) ha hkn hx hv0
    have ha3 : AscB es2 (kvL (T.bl ++ [x]) 0) := by rw [kvL_snoc, Nat.zero_add]; exact ha2
    have Hput2 := Lib.hid hput2
    have hxa : ∃ a : Array Value, a = blkC x := ⟨_, rfl⟩
    have hints : ∀ (V : World) (bx : Nat), V.heap[bx]? = some (.cells (blkC x) 152 (0, 0)) → Ints V V.heap.size (some ⟨bx, 0, none⟩) 256 x := fun V bx hV =>
      ⟨hx, fun _ => ⟨bx, 0, rfl, (Array.getElem?_eq_some_iff.1 hV).1, fun j hj => by rw [cell_blk hV, Nat.zero_add, blkC_get hj]⟩⟩
    rw [hbC] at hlk hup ⊢
    generalize blkC x = C at *
    have Hlk := Lib.hid hlk
    have Hup := Lib.hid hup
    have Ha3 := Lib.hid ha3
    have Hints := Lib.hid hints
    clear hlk hput hput2 hbC hcs hx hbw hS1 hg1 hm1 hS hm ha hmem hkn Hput hup ha2 ha3 hints hxa hv0
    go_enter Tryz.func100, Tryz.ntmps100
    go_upto_region 1 with fail
    have x0 : (w.alloc (.cells C 152)).drew.cell? ⟨b, 2, none⟩ = some (.map (some m)) := cell_blk HS1.out.bd 2
    have x1 : (w.alloc (.cells C 152)).drew.heap[w.heap.size]? = some (.cells C 152 (0, 0)) := hG1.out
    have x2 : (w.alloc (.cells C 152)).drew.heap[m]? = some (.map es ck) := Hm1.out
    have hSd := HS1.out.below (Below.refl _ _).drew
    have hbd := Hbw.out.drew
    have hbxm : m < w.heap.size ∧ b < w.heap.size := Hmw.out
    generalize hbx : w.heap.size = bx at *
    generalize w.alloc (.cells C 152) = W1 at *
    have HSd := Lib.hid hSd
    have Hbd := Lib.hid hbd
    have Hbm := Lib.hid (show b ≠ m ∧ bx ≠ m from ⟨hSd.ne, by omega⟩)
    clear hSd hbd HS1 Hm1 hG1
    refine wp_region_noPanic ?_
    refine wp_region_held_drew (S := (fun V => V.cell? ⟨b, 2, none⟩ = some (.map (some m)) ∧ V.heap[bx]? = some (.cells C 152 (0, 0)) ∧ V.heap[m]? = some (.map es ck))) (by kernel_rfl) ⟨x0, x1, x2⟩ (fun hHeld => ?_)
    refine wpAnyH_take (i := 0) (v := .pointer (some ⟨b, 0, none⟩)) rfl (by kernel_rfl) (by kernel_rfl) (by kernel_rfl) (fun _ _ _ h => h) (.inl ⟨by rfl, fun V hV => by obtain ⟨c0, c1, c2⟩ := hV; go_simp⟩) hHeld ?_
    try simp only [Act.put, qB, qC, qE, qF, qG]
    refine wpAnyH_take (i := 1) (v := .pointer (some ⟨b, 0, none⟩)) rfl (by kernel_rfl) (by kernel_rfl) (by kernel_rfl) (fun _ _ _ h => h) (.inl ⟨by rfl, fun V hV => by obtain ⟨c0, c1, c2⟩ := hV; go_simp⟩) hHeld ?_
    try simp only [Act.put, qB, qC, qD, qE, qF, qG]
    refine wpAnyH_take (i := 2) (v := .pointer (some ⟨b, 2, none⟩)) rfl (by kernel_rfl) (by kernel_rfl) (by kernel_rfl) (fun _ _ _ h => h) (.inl ⟨by rfl, fun V hV => by obtain ⟨c0, c1, c2⟩ := hV; go_simp⟩) hHeld ?_
    try simp only [Act.put, qB, qC, qD, qE, qF, qG]
    refine wpAnyH_take (i := 3) (v := .map (some m)) rfl (by kernel_rfl) (by kernel_rfl) (by kernel_rfl) (fun _ _ _ h => h) (.inl ⟨by rfl, fun V hV => by obtain ⟨c0, c1, c2⟩ := hV; go_simp⟩) hHeld ?_
    try simp only [Act.put, qB, qC, qD, qE, qF, qG]
    refine wpAnyH_take (i := 4) (v := .agg C) rfl (by kernel_rfl) (by kernel_rfl) (by kernel_rfl) (fun _ _ _ h => h) (.inl ⟨by rfl, fun V hV => by obtain ⟨c0, c1, c2⟩ := hV; exact exec_load_blk rfl rfl c1 HCs.out⟩) hHeld ?_
    try simp only [Act.put, qB, qC, qD, qE, qF, qG]
    refine wpAnyH_take (i := 5) (v := .tuple #[.int .i64 0, .bool false]) rfl (by kernel_rfl) (by kernel_rfl) (by kernel_rfl) (fun _ _ _ h => h) (.inl ⟨by rfl, fun V hV => by obtain ⟨c0, c1, c2⟩ := hV; exact (Hlk.out _ _ _ _ _ rfl rfl rfl c2)⟩) hHeld ?_
    try simp only [Act.put, qB, qC, qD, qE, qF, qG]
    refine wpAnyH_take (i := 6) (v := .tuple #[.int .i64 0, .bool false]) rfl (by kernel_rfl) (by kernel_rfl) (by kernel_rfl) (fun _ _ _ h => h) (.inl ⟨by rfl, fun V hV => by obtain ⟨c0, c1, c2⟩ := hV; go_simp⟩) hHeld ?_
    try simp only [Act.put, qB, qC, qD, qE, qF, qG]
    refine wpAnyH_take (i := 7) (v := .int .i64 0) rfl (by kernel_rfl) (by kernel_rfl) (by kernel_rfl) (fun _ _ _ h => h) (.inl ⟨by rfl, fun V hV => by obtain ⟨c0, c1, c2⟩ := hV; go_simp⟩) hHeld ?_
    try simp only [Act.put, qB, qC, qD, qE, qF, qG]
    refine wpAnyH_take (i := 8) (v := .bool false) rfl (by kernel_rfl) (by kernel_rfl) (by kernel_rfl) (fun _ _ _ h => h) (.inl ⟨by rfl, fun V hV => by obtain ⟨c0, c1, c2⟩ := hV; go_simp⟩) hHeld ?_
    try simp only [Act.put, qB, qC, qD, qE, qF, qG]
    refine wpAnyH_take (i := 9) (v := .int .i64 0) rfl (by kernel_rfl) (by kernel_rfl) (by kernel_rfl) (fun _ _ _ h => h) (.inl ⟨by rfl, fun V hV => by obtain ⟨c0, c1, c2⟩ := hV; go_simp⟩) hHeld ?_
    try simp only [Act.put, qB, qC, qD, qE, qF, qG]
    refine wpAnyH_take (i := 10) (v := .bool false) rfl (by kernel_rfl) (by kernel_rfl) (by kernel_rfl) (fun _ _ _ h => h) (.inl ⟨by rfl, fun V hV => by obtain ⟨c0, c1, c2⟩ := hV; go_simp⟩) hHeld ?_
    try simp only [Act.put, qB, qC, qD, qE, qF, qG]
    refine wpAnyH_done (by kernel_rfl) ?_ _
    refine NoPanic.normal ?_
    generalize W1.drew = V0 at *
    have x3 : V0.cell? ⟨b, 1, none⟩ = some (.slice Ab T.bl.length cb) := cell_blk HSd.out.bd 1
    go_upto_region 4 with fail
    have x0 : V0.drew.cell? ⟨b, 2, none⟩ = some (.map (some m)) := x0
    have x1 : V0.drew.heap[bx]? = some (.cells C 152 (0, 0)) := x1
    have x2 : V0.drew.heap[m]? = some (.map es ck) := x2
    have hSd := HSd.out.below (Below.refl _ _).drew
    have hbd := Hbd.out.drew
    have HSd := Lib.hid hSd
    have Hbd := Lib.hid hbd
    clear hSd hbd x3
    refine wp_region_noPanic ?_
    refine wp_region_held_drew (S := (fun V => V.cell? ⟨b, 2, none⟩ = some (.map (some m)) ∧ V.heap[bx]? = some (.cells C 152 (0, 0)))) (by kernel_rfl) ⟨x0, x1⟩ (fun hHeld => ?_)
    generalize V0.drew = V1 at *
    refine wpAnyH_take (i := 0) (v := .pointer (some ⟨b, 0, none⟩)) rfl (by kernel_rfl) (by kernel_rfl) (by kernel_rfl) (fun _ _ _ h => h) (.inl ⟨by rfl, fun V hV => by obtain ⟨c0, c1⟩ := hV; go_simp⟩) hHeld ?_
    try simp only [Act.put, qB, qC, qE, qF, qG]
    refine wpAnyH_take (i := 1) (v := .pointer (some ⟨b, 0, none⟩)) rfl (by kernel_rfl) (by kernel_rfl) (by kernel_rfl) (fun _ _ _ h => h) (.inl ⟨by rfl, fun V hV => by obtain ⟨c0, c1⟩ := hV; go_simp⟩) hHeld ?_
    try simp only [Act.put, qB, qC, qD, qE, qF, qG]
    refine wpAnyH_take (i := 2) (v := .pointer (some ⟨b, 2, none⟩)) rfl (by kernel_rfl) (by kernel_rfl) (by kernel_rfl) (fun _ _ _ h => h) (.inl ⟨by rfl, fun V hV => by obtain ⟨c0, c1⟩ := hV; go_simp⟩) hHeld ?_
    try simp only [Act.put, qB, qC, qD, qE, qF, qG]
    refine wpAnyH_take (i := 3) (v := .map (some m)) rfl (by kernel_rfl) (by kernel_rfl) (by kernel_rfl) (fun _ _ _ h => h) (.inl ⟨by rfl, fun V hV => by obtain ⟨c0, c1⟩ := hV; go_simp⟩) hHeld ?_
    try simp only [Act.put, qB, qC, qD, qE, qF, qG]
    refine wpAnyH_take (i := 4) (v := .agg C) rfl (by kernel_rfl) (by kernel_rfl) (by kernel_rfl) (fun _ _ _ h => h) (.inl ⟨by rfl, fun V hV => by obtain ⟨c0, c1⟩ := hV; exact exec_load_blk rfl rfl c1 HCs.out⟩) hHeld ?_
    try simp only [Act.put, qB, qC, qD, qE, qF, qG]
    refine wpAnyH_take (i := 5) (v := .int .i64 (T.bl.length : Int)) rfl (by kernel_rfl) (by kernel_rfl) (by kernel_rfl) (fun _ _ _ h => h) (.inl ⟨by rfl, fun V hV => by obtain ⟨c0, c1⟩ := hV; go_simp⟩) hHeld ?_
    try simp only [Act.put, qB, qC, qD, qE, qF, qG]
    refine wpAnyH_ready (rs := [6]) (by kernel_rfl) (by simp) ?_
    refine AllReadyH.cons rfl (fun K hK => ?_) AllReadyH.nil
    go_simp
    rw [Hup.out V1 x2]
    simp only [Result.andThen_ok]
    have y0 : (V1.putObj m (.map es2 ck2)).cell? ⟨b, 2, none⟩ = some (.map (some m)) := (World.cell?_of_block (World.putObj_heap_other Hbm.out.1)).trans x0
    have y1 : (V1.putObj m (.map es2 ck2)).heap[bx]? = some (.cells C 152 (0, 0)) := (World.putObj_heap_other Hbm.out.2).trans x1
    refine hK.out _ _ ⟨y0, y1⟩ (fun hHeld => ?_)
    clear hK K
    try simp only [Act.put]
    refine wpAnyH_done (by kernel_rfl) ?_ _
    refine NoPanic.normal ?_
    have hS1 := HSd.out
    have hbd2 : (V1.putObj m (.map es2 ck2)).heap[b]? = some (.cells #[Vi, .slice Ab T.bl.length cb, .map (some m)] 146 (0, 0)) := (World.putObj_heap_other Hbm.out.1).trans hS1.bd
    have hm2 : (V1.putObj m (.map es2 ck2)).heap[m]? = some (.map es2 ck2) := World.putObj_heap_same (Array.getElem?_eq_some_iff.1 x2).1
    have hst2 : TrS F (fun k => k = b ∨ k = m) (V1.putObj m (.map es2 ck2)) T Vi (.slice Ab T.bl.length cb) xs := hS1.st.keep (by simp) (fun k _ hx => World.putObj_heap_other (fun e => hx (.inr e)))
    have hbf : BdF b m Vi (.slice Ab T.bl.length cb) w (V1.putObj m (.map es2 ck2)) := by
      have hb := Hbd.out
      exact ⟨hb.os, hb.tape, hb.output, by have := hb.size; simp; omega, fun k hk _ h2 _ _ => (World.putObj_heap_other h2).trans (hb.block k (by omega))⟩
    have hint := Hints.out (V1.putObj m (.map es2 ck2)) bx y1
    generalize V1.putObj m (.map es2 ck2) = V2 at *
    have Hst2 := Lib.hid hst2
    have Hbf := Lib.hid hbf
    have Hint := Lib.hid hint
    have Hbd2 := Lib.hid hbd2
    have Hm2 := Lib.hid hm2
    have hbl2 : b < V2.heap.size := (Array.getElem?_eq_some_iff.1 hbd2).1
    have Hln := Lib.hid hS1.len
    have Hff := Lib.hid (And.intro hS1.fb hS1.fm)
    clear hst2 hbf hint hbd2 hm2 hS1 HSd Hbd x0 x1 x2 y0 y1 hHeld Hup
    go_upto_region 5 with fail
    go_cut [] (fun wx => ∃ (Vb2 : Value) (xs2 : List Value), BdS F b m { ix := T.ix, bl := T.bl ++ [x] } Vi Vb2 xs2 wx ∧ BdF b m Vi (.slice Ab T.bl.length cb) V2.drew wx ∧ (∀ q, q < V2.drew.heap.size → (Value.slice Ab T.bl.length cb).ownBlock ≠ some q → Vb2.ownBlock ≠ some q))
    case first =>
      have Hcl := Lib.hid (clone_ints ⟨bx, 0, none⟩ 256 256 x V2.drew (Hint.out.below (Below.refl _ _).drew) (by omega) (by omega))
      have xU : V2.drew.cell? ⟨b, 1, none⟩ = some (.slice Ab T.bl.length cb) := cell_blk Hbd2.out 1
      have Hlt := Lib.hid (show b < V2.drew.heap.size from hbl2)
      have hstU := Hst2.out.below (Below.refl _ _).drew
      have Hfs := Lib.hid hstU.hF
      have Hrb := Lib.hid (fun (V3 : World) (hb : Below V2.drew.heap.size V2.drew V3) => ownsRow_below hstU.rb hb)
      have Hbv := Lib.hid (show (Value.slice Ab T.bl.length cb).ownBlock ≠ some b from fun e => hstU.xb b e (.inl rfl))
      have Hfz := Lib.hid (fun (V3 V5 : World) (o : Obj) (hb : Below V2.drew.heap.size V2.drew V3) (hg : (V3.alloc o).grownBy V5 (Value.slice Ab T.bl.length cb).ownBlock) =>
        (frozen_blk ((hg.block b (by have := hb.size; simp; have h : b < V2.drew.heap.size := hbl2; omega) (fun e => hstU.xb b e.symm (.inl rfl))).trans ((heap_old (show b < V3.heap.size by have := hb.size; have h : b < V2.drew.heap.size := hbl2; omega)).trans ((hb.block b hbl2).trans (show V2.drew.heap[b]? = _ from Hbd2.out)))) 1 : V5.frozen? ⟨b, 1, none⟩ = false))
      have Hmid := Lib.hid (fun (V3 V5 : World) (Vb2 : Value) (g c : Nat) (o : Obj) (h3 : Below V2.drew.heap.size V2.drew V3) (h4 : V2.drew.heap.size ≤ g) (h5 : g < V3.heap.size) (h6 : 256 ≤ c) (h7 : Ints V3 V3.heap.size (some ⟨g, 0, none⟩) 256 x) h8 h9 h10 =>
        BdS.mid (U := V2.drew) (V3 := V3) (V5 := V5) (Vb2 := Vb2) (g := g) (c := c) Hbd2.out Hm2.out Ha3.out hstU Hln.out Hbm.out.1 Hff.out.1 Hff.out.2 Hx.out h3 h4 h5 h6 h7 o h8 h9 h10)
      clear hstU
      refine wp_region_noPanic ?_
      refine wp_region_held_drew (S := fun _ => True) (by kernel_rfl) trivial (fun hHeld => ?_)
      generalize V2.drew = U at *
      refine wpAnyH_take (i := 0) (v := .pointer (some ⟨b, 0, none⟩)) rfl (by kernel_rfl) (by kernel_rfl) (by kernel_rfl) (fun _ _ _ h => h) (.inl ⟨by rfl, fun V hV => by go_simp⟩) hHeld ?_
      try simp only [Act.put, qB, qC, qE, qF, qG]
      refine wpAnyH_take (i := 1) (v := .pointer (some ⟨b, 0, none⟩)) rfl (by kernel_rfl) (by kernel_rfl) (by kernel_rfl) (fun _ _ _ h => h) (.inl ⟨by rfl, fun V hV => by go_simp⟩) hHeld ?_
      try simp only [Act.put, qB, qC, qD, qE, qF, qG]
      refine wpAnyH_take (i := 2) (v := .pointer (some ⟨b, 0, none⟩)) rfl (by kernel_rfl) (by kernel_rfl) (by kernel_rfl) (fun _ _ _ h => h) (.inl ⟨by rfl, fun V hV => by go_simp⟩) hHeld ?_
      try simp only [Act.put, qB, qC, qD, qE, qF, qG]
      refine wpAnyH_take (i := 3) (v := .pointer (some ⟨b, 0, none⟩)) rfl (by kernel_rfl) (by kernel_rfl) (by kernel_rfl) (fun _ _ _ h => h) (.inl ⟨by rfl, fun V hV => by go_simp⟩) hHeld ?_
      try simp only [Act.put, qB, qC, qD, qE, qF, qG]
      refine wpAnyH_take (i := 4) (v := .pointer (some ⟨b, 1, none⟩)) rfl (by kernel_rfl) (by kernel_rfl) (by kernel_rfl) (fun _ _ _ h => h) (.inl ⟨by rfl, fun V hV => by go_simp⟩) hHeld ?_
      try simp only [Act.put, qB, qC, qD, qE, qF, qG]
      refine wpAnyH_take (i := 6) (v := .slice (some ⟨bx, 0, none⟩) 256 256) rfl (by kernel_rfl) (by kernel_rfl) (by kernel_rfl) (fun _ _ _ h => h) (.inl ⟨by rfl, fun V hV => by go_simp⟩) hHeld ?_
      try simp only [Act.put, qB, qC, qD, qE, qF, qG]
      refine wpAnyH_ready (rs := [5, 7]) (by kernel_rfl) (by simp) ?_
      refine AllReadyH.cons rfl (fun K hK => ?_) (AllReadyH.cons rfl (fun K hK => ?_) AllReadyH.nil)
      · go_simp
        refine hK.out _ _ trivial (fun hHeld => ?_)
        clear hK K
        try simp only [Act.put, qB, qC, qD, qE, qF, qG]
        refine wpAnyH_ready (rs := [7]) (by kernel_rfl) (by simp) ?_
        refine AllReadyH.cons rfl (fun K hK => ?_) AllReadyH.nil
        go_simp
        refine (Hcl.out).mono ?_
        rintro e V3 ⟨g, c2, rfl, hc2, hg1, hg2, hgi, hb3⟩
        have x3 := (World.cell?_of_block (a := ⟨b, 1, none⟩) (hb3.block b Hlt.out)).trans xU
        refine hK.out _ _ trivial (fun hHeld => ?_)
        clear hK K
        try simp only [Act.put, qB, qC, qD, qE, qF, qG]
        refine wpAnyH_ready (rs := [8]) (by kernel_rfl) (by simp) ?_
        refine AllReadyH.cons rfl (fun K hK => ?_) AllReadyH.nil
        go_simp
        have x4 : (V3.alloc (.cells #[.slice (some ⟨g, 0, none⟩) 256 c2] 37)).cell? ⟨b, 1, none⟩ = some (.slice Ab T.bl.length cb) := (World.cell?_alloc_lt _ _ _ (show b < V3.heap.size by have := hb3.size; have := Hlt.out; omega)).trans x3
        have hc1 := cell_one_new V3 (.slice (some ⟨g, 0, none⟩) 256 c2) 37
        have hrb := (Hrb.out V3 hb3).alloc (.cells #[.slice (some ⟨g, 0, none⟩) 256 c2] 37)
        have hfs : F ≤ (V3.alloc (.cells #[.slice (some ⟨g, 0, none⟩) 256 c2] 37)).heap.size := by have := Hfs.out; have := hb3.size; simp; omega
        have hbs : b < (V3.alloc (.cells #[.slice (some ⟨g, 0, none⟩) 256 c2] 37)).heap.size := by have := Hlt.out; have := hb3.size; simp; omega
        have hfz : ∀ V5, (V3.alloc (.cells #[.slice (some ⟨g, 0, none⟩) 256 c2] 37)).grownBy V5 (Value.slice Ab T.bl.length cb).ownBlock → V5.frozen? ⟨b, 1, none⟩ = false := fun V5 h5 => Hfz.out V3 V5 _ hb3 h5
        obtain ⟨V4, hV4⟩ : ∃ V4, V4 = V3.alloc (.cells #[.slice (some ⟨g, 0, none⟩) 256 c2] 37) := ⟨_, rfl⟩
        rw [← hV4] at x4 hc1 hrb hfs hbs hfz
        rw [← hV4]
        have HV4 := Lib.hid hV4
        have Hrb4 := Lib.hid hrb
        have Hfz4 := Lib.hid hfz
        have Hc1 := Lib.hid hc1
        clear hV4 hrb hfz hc1
        refine hK.out _ _ trivial (fun hHeld => ?_)
        clear hK K
        try simp only [Act.put, qB, qC, qD, qE, qF, qG]
        refine wpAnyH_ready (rs := [9]) (by kernel_rfl) (by simp) ?_
        refine AllReadyH.cons rfl (fun K hK => ?_) AllReadyH.nil
        refine step_append_where rfl _ _ 38 rfl F 37 i0 (.slice none 0 0) 1 24 Tryz.underlying38 hi0 hz0 hz1 hz2 rfl (by decide) (.slice Ab T.bl.length cb) T.bl.length xs (by simp [Act.eval]) Hrb4.out ⟨V3.heap.size, 0, none⟩ 1 1 [.slice (some ⟨g, 0, none⟩) 256 c2] (by simp [Act.eval]) rfl Hc1.out (by intro u hu; simp at hu; subst hu; rfl) (by simp only [maxLen]; omega) (by omega) hfs ?_
        intro Vb2 V5 hown5 hg5 hat5
        have x5 := (World.cell?_of_block (a := ⟨b, 1, none⟩) (hg5.block b hbs (fun e => Hbv.out e.symm))).trans x4
        have f5 := Hfz4.out V5 hg5
        obtain ⟨g5, cap5, rfl⟩ := ownsRow_succ hown5
        rw [HV4.out] at hg5 hat5
        obtain ⟨hm1, hm2, hm3⟩ := Hmid.out V3 V5 _ g c2 _ hb3 hg1 hg2 hc2 hgi hown5 hg5 hat5
        have Hm := Lib.hid (And.intro hm1 (And.intro hm2 hm3))
        clear hm1 hm2 hm3 hown5 hg5 hat5
        refine hK.out _ _ trivial (fun hHeld => ?_)
        clear hK K
        try simp only [Act.put, qB, qC, qD, qE, qF, qG]
        refine wpAnyH_take (i := 10) (v := .pointer (some ⟨b, 0, none⟩)) rfl (by kernel_rfl) (by kernel_rfl) (by kernel_rfl) (fun _ _ _ h => h) (.inl ⟨by rfl, fun V hV => by go_simp⟩) hHeld ?_
        try simp only [Act.put, qB, qC, qD, qE, qF, qG]
        refine wpAnyH_take (i := 11) (v := .pointer (some ⟨b, 0, none⟩)) rfl (by kernel_rfl) (by kernel_rfl) (by kernel_rfl) (fun _ _ _ h => h) (.inl ⟨by rfl, fun V hV => by go_simp⟩) hHeld ?_
        try simp only [Act.put, qB, qC, qD, qE, qF, qG]
        refine wpAnyH_take (i := 12) (v := .pointer (some ⟨b, 1, none⟩)) rfl (by kernel_rfl) (by kernel_rfl) (by kernel_rfl) (fun _ _ _ h => h) (.inl ⟨by rfl, fun V hV => by go_simp⟩) hHeld ?_
        try simp only [Act.put, qB, qC, qD, qE, qF, qG]
        refine wpAnyH_ready (rs := [13]) (by kernel_rfl) (by simp) ?_
        refine AllReadyH.cons rfl (fun K hK => ?_) AllReadyH.nil
        go_simp
        refine hK.out _ _ trivial (fun hHeld => ?_)
        clear hK K
        try simp only [Act.put, qB, qC, qD, qE, qF, qG]
        refine wpAnyH_done (by kernel_rfl) ?_ _
        refine NoPanic.normal ?_
        go_wp2_with fail
        go_meet
        exact ⟨_, _, Hm.out.1, Hm.out.2.1, Hm.out.2.2⟩
      · go_simp
        refine (Hcl.out).mono ?_
        rintro e V3 ⟨g, c2, rfl, hc2, hg1, hg2, hgi, hb3⟩
        have x3 := (World.cell?_of_block (a := ⟨b, 1, none⟩) (hb3.block b Hlt.out)).trans xU
        refine hK.out _ _ trivial (fun hHeld => ?_)
        clear hK K
        try simp only [Act.put, qB, qC, qD, qE, qF, qG]
        refine wpAnyH_ready (rs := [5, 8]) (by kernel_rfl) (by simp) ?_
        refine AllReadyH.cons rfl (fun K hK => ?_) (AllReadyH.cons rfl (fun K hK => ?_) AllReadyH.nil)
        · go_simp
          refine hK.out _ _ trivial (fun hHeld => ?_)
          clear hK K
          try simp only [Act.put, qB, qC, qD, qE, qF, qG]
          refine wpAnyH_ready (rs := [8]) (by kernel_rfl) (by simp) ?_
          refine AllReadyH.cons rfl (fun K hK => ?_) AllReadyH.nil
          go_simp
          have x4 : (V3.alloc (.cells #[.slice (some ⟨g, 0, none⟩) 256 c2] 37)).cell? ⟨b, 1, none⟩ = some (.slice Ab T.bl.length cb) := (World.cell?_alloc_lt _ _ _ (show b < V3.heap.size by have := hb3.size; have := Hlt.out; omega)).trans x3
          have hc1 := cell_one_new V3 (.slice (some ⟨g, 0, none⟩) 256 c2) 37
          have hrb := (Hrb.out V3 hb3).alloc (.cells #[.slice (some ⟨g, 0, none⟩) 256 c2] 37)
          have hfs : F ≤ (V3.alloc (.cells #[.slice (some ⟨g, 0, none⟩) 256 c2] 37)).heap.size := by have := Hfs.out; have := hb3.size; simp; omega
          have hbs : b < (V3.alloc (.cells #[.slice (some ⟨g, 0, none⟩) 256 c2] 37)).heap.size := by have := Hlt.out; have := hb3.size; simp; omega
          have hfz : ∀ V5, (V3.alloc (.cells #[.slice (some ⟨g, 0, none⟩) 256 c2] 37)).grownBy V5 (Value.slice Ab T.bl.length cb).ownBlock → V5.frozen? ⟨b, 1, none⟩ = false := fun V5 h5 => Hfz.out V3 V5 _ hb3 h5
          obtain ⟨V4, hV4⟩ : ∃ V4, V4 = V3.alloc (.cells #[.slice (some ⟨g, 0, none⟩) 256 c2] 37) := ⟨_, rfl⟩
          rw [← hV4] at x4 hc1 hrb hfs hbs hfz
          rw [← hV4]
          have HV4 := Lib.hid hV4
          have Hrb4 := Lib.hid hrb
          have Hfz4 := Lib.hid hfz
          have Hc1 := Lib.hid hc1
          clear hV4 hrb hfz hc1
          refine hK.out _ _ trivial (fun hHeld => ?_)
          clear hK K
          try simp only [Act.put, qB, qC, qD, qE, qF, qG]
          refine wpAnyH_ready (rs := [9]) (by kernel_rfl) (by simp) ?_
          refine AllReadyH.cons rfl (fun K hK => ?_) AllReadyH.nil
          refine step_append_where rfl _ _ 38 rfl F 37 i0 (.slice none 0 0) 1 24 Tryz.underlying38 hi0 hz0 hz1 hz2 rfl (by decide) (.slice Ab T.bl.length cb) T.bl.length xs (by simp [Act.eval]) Hrb4.out ⟨V3.heap.size, 0, none⟩ 1 1 [.slice (some ⟨g, 0, none⟩) 256 c2] (by simp [Act.eval]) rfl Hc1.out (by intro u hu; simp at hu; subst hu; rfl) (by simp only [maxLen]; omega) (by omega) hfs ?_
          intro Vb2 V5 hown5 hg5 hat5
          have x5 := (World.cell?_of_block (a := ⟨b, 1, none⟩) (hg5.block b hbs (fun e => Hbv.out e.symm))).trans x4
          have f5 := Hfz4.out V5 hg5
          obtain ⟨g5, cap5, rfl⟩ := ownsRow_succ hown5
          rw [HV4.out] at hg5 hat5
          obtain ⟨hm1, hm2, hm3⟩ := Hmid.out V3 V5 _ g c2 _ hb3 hg1 hg2 hc2 hgi hown5 hg5 hat5
          have Hm := Lib.hid (And.intro hm1 (And.intro hm2 hm3))
          clear hm1 hm2 hm3 hown5 hg5 hat5
          refine hK.out _ _ trivial (fun hHeld => ?_)
          clear hK K
          try simp only [Act.put, qB, qC, qD, qE, qF, qG]
          refine wpAnyH_take (i := 10) (v := .pointer (some ⟨b, 0, none⟩)) rfl (by kernel_rfl) (by kernel_rfl) (by kernel_rfl) (fun _ _ _ h => h) (.inl ⟨by rfl, fun V hV => by go_simp⟩) hHeld ?_
          try simp only [Act.put, qB, qC, qD, qE, qF, qG]
          refine wpAnyH_take (i := 11) (v := .pointer (some ⟨b, 0, none⟩)) rfl (by kernel_rfl) (by kernel_rfl) (by kernel_rfl) (fun _ _ _ h => h) (.inl ⟨by rfl, fun V hV => by go_simp⟩) hHeld ?_
          try simp only [Act.put, qB, qC, qD, qE, qF, qG]
          refine wpAnyH_take (i := 12) (v := .pointer (some ⟨b, 1, none⟩)) rfl (by kernel_rfl) (by kernel_rfl) (by kernel_rfl) (fun _ _ _ h => h) (.inl ⟨by rfl, fun V hV => by go_simp⟩) hHeld ?_
          try simp only [Act.put, qB, qC, qD, qE, qF, qG]
          refine wpAnyH_ready (rs := [13]) (by kernel_rfl) (by simp) ?_
          refine AllReadyH.cons rfl (fun K hK => ?_) AllReadyH.nil
          go_simp
          refine hK.out _ _ trivial (fun hHeld => ?_)
          clear hK K
          try simp only [Act.put, qB, qC, qD, qE, qF, qG]
          refine wpAnyH_done (by kernel_rfl) ?_ _
          refine NoPanic.normal ?_
          go_wp2_with fail
          go_meet
          exact ⟨_, _, Hm.out.1, Hm.out.2.1, Hm.out.2.2⟩
        · go_simp
          have x4 : (V3.alloc (.cells #[.slice (some ⟨g, 0, none⟩) 256 c2] 37)).cell? ⟨b, 1, none⟩ = some (.slice Ab T.bl.length cb) := (World.cell?_alloc_lt _ _ _ (show b < V3.heap.size by have := hb3.size; have := Hlt.out; omega)).trans x3
          have hc1 := cell_one_new V3 (.slice (some ⟨g, 0, none⟩) 256 c2) 37
          have hrb := (Hrb.out V3 hb3).alloc (.cells #[.slice (some ⟨g, 0, none⟩) 256 c2] 37)
          have hfs : F ≤ (V3.alloc (.cells #[.slice (some ⟨g, 0, none⟩) 256 c2] 37)).heap.size := by have := Hfs.out; have := hb3.size; simp; omega
          have hbs : b < (V3.alloc (.cells #[.slice (some ⟨g, 0, none⟩) 256 c2] 37)).heap.size := by have := Hlt.out; have := hb3.size; simp; omega
          have hfz : ∀ V5, (V3.alloc (.cells #[.slice (some ⟨g, 0, none⟩) 256 c2] 37)).grownBy V5 (Value.slice Ab T.bl.length cb).ownBlock → V5.frozen? ⟨b, 1, none⟩ = false := fun V5 h5 => Hfz.out V3 V5 _ hb3 h5
          obtain ⟨V4, hV4⟩ : ∃ V4, V4 = V3.alloc (.cells #[.slice (some ⟨g, 0, none⟩) 256 c2] 37) := ⟨_, rfl⟩
          rw [← hV4] at x4 hc1 hrb hfs hbs hfz
          rw [← hV4]
          have HV4 := Lib.hid hV4
          have Hrb4 := Lib.hid hrb
          have Hfz4 := Lib.hid hfz
          have Hc1 := Lib.hid hc1
          clear hV4 hrb hfz hc1
          refine hK.out _ _ trivial (fun hHeld => ?_)
          clear hK K
          try simp only [Act.put, qB, qC, qD, qE, qF, qG]
          refine wpAnyH_ready (rs := [5]) (by kernel_rfl) (by simp) ?_
          refine AllReadyH.cons rfl (fun K hK => ?_) AllReadyH.nil
          go_simp
          refine hK.out _ _ trivial (fun hHeld => ?_)
          clear hK K
          try simp only [Act.put, qB, qC, qD, qE, qF, qG]
          refine wpAnyH_ready (rs := [9]) (by kernel_rfl) (by simp) ?_
          refine AllReadyH.cons rfl (fun K hK => ?_) AllReadyH.nil
          refine step_append_where rfl _ _ 38 rfl F 37 i0 (.slice none 0 0) 1 24 Tryz.underlying38 hi0 hz0 hz1 hz2 rfl (by decide) (.slice Ab T.bl.length cb) T.bl.length xs (by simp [Act.eval]) Hrb4.out ⟨V3.heap.size, 0, none⟩ 1 1 [.slice (some ⟨g, 0, none⟩) 256 c2] (by simp [Act.eval]) rfl Hc1.out (by intro u hu; simp at hu; subst hu; rfl) (by simp only [maxLen]; omega) (by omega) hfs ?_
          intro Vb2 V5 hown5 hg5 hat5
          have x5 := (World.cell?_of_block (a := ⟨b, 1, none⟩) (hg5.block b hbs (fun e => Hbv.out e.symm))).trans x4
          have f5 := Hfz4.out V5 hg5
          obtain ⟨g5, cap5, rfl⟩ := ownsRow_succ hown5
          rw [HV4.out] at hg5 hat5
          obtain ⟨hm1, hm2, hm3⟩ := Hmid.out V3 V5 _ g c2 _ hb3 hg1 hg2 hc2 hgi hown5 hg5 hat5
          have Hm := Lib.hid (And.intro hm1 (And.intro hm2 hm3))
          clear hm1 hm2 hm3 hown5 hg5 hat5
          refine hK.out _ _ trivial (fun hHeld => ?_)
          clear hK K
          try simp only [Act.put, qB, qC, qD, qE, qF, qG]
          refine wpAnyH_take (i := 10) (v := .pointer (some ⟨b, 0, none⟩)) rfl (by kernel_rfl) (by kernel_rfl) (by kernel_rfl) (fun _ _ _ h => h) (.inl ⟨by rfl, fun V hV => by go_simp⟩) hHeld ?_
          try simp only [Act.put, qB, qC, qD, qE, qF, qG]
          refine wpAnyH_take (i := 11) (v := .pointer (some ⟨b, 0, none⟩)) rfl (by kernel_rfl) (by kernel_rfl) (by kernel_rfl) (fun _ _ _ h => h) (.inl ⟨by rfl, fun V hV => by go_simp⟩) hHeld ?_
          try simp only [Act.put, qB, qC, qD, qE, qF, qG]
          refine wpAnyH_take (i := 12) (v := .pointer (some ⟨b, 1, none⟩)) rfl (by kernel_rfl) (by kernel_rfl) (by kernel_rfl) (fun _ _ _ h => h) (.inl ⟨by rfl, fun V hV => by go_simp⟩) hHeld ?_
          try simp only [Act.put, qB, qC, qD, qE, qF, qG]
          refine wpAnyH_ready (rs := [13]) (by kernel_rfl) (by simp) ?_
          refine AllReadyH.cons rfl (fun K hK => ?_) AllReadyH.nil
          go_simp
          refine hK.out _ _ trivial (fun hHeld => ?_)
          clear hK K
          try simp only [Act.put, qB, qC, qD, qE, qF, qG]
          refine wpAnyH_done (by kernel_rfl) ?_ _
          refine NoPanic.normal ?_
          go_wp2_with fail
          go_meet
          exact ⟨_, _, Hm.out.1, Hm.out.2.1, Hm.out.2.2⟩
    case rest =>
      obtain ⟨Vb2, xs2, hSd, hF2, hown⟩ := hcut
      have hsz : w.heap.size ≤ V2.drew.heap.size := Hbf.out.size
      have Hbf := Lib.hid (Hbf.out.trans (BdF.below (Below.refl _ V2).drew |>.trans hF2 (fun _ _ h => h) (fun _ _ h => h)) (fun _ _ h => h) (fun _ _ h => h))
      have HSd := Lib.hid hSd
      have Hown := Lib.hid (fun (q : Nat) (hq : q < w.heap.size) (h : (Value.slice Ab T.bl.length cb).ownBlock ≠ some q) => hown q (Nat.lt_of_lt_of_le hq hsz) h)
      clear hSd hF2 hown hsz
      generalize wc = V6 at *
      have e0 : V6.cell? ⟨b, 0, none⟩ = some Vi := cell_blk HSd.out.bd 0
      have hc1 := cell_one_new V6 (.int .i64 (T.bl.length : Int)) 3
      have hri := HSd.out.st.ri.alloc (.cells #[.int .i64 (T.bl.length : Int)] 3)
      have hfs := HSd.out.st.hF
      have hri' : (V6.alloc (.cells #[.int .i64 (T.bl.length : Int)] 3)).ownsRow F 3 1 Vi T.ix.length (T.ix.map intC) := hri
      go_wp2_with (at_builtin; refine wpList_append_at _ rfl _ _ 37 rfl F 3 j0 (.int .i64 0) 1 8 Tryz.underlying37 hj0 jz0 jz1 jz2 rfl (by decide) Vi T.ix.length (T.ix.map intC) rfl hri' ⟨V6.heap.size, 0, none⟩ 1 1 [.int .i64 (T.bl.length : Int)] rfl rfl hc1 ?qone ?qb1 ?qb2 ?qb3 ?_)
      case qone => first | rfl | (intro u hu; simp at hu; subst hu; rfl)
      case qb1 => simp only [maxLen]; omega
      case qb2 => omega
      case qb3 => first | omega | (simp; omega)
      intro Vi2 V7 hown7 hg7 hat7
      obtain ⟨g7, cap7, rfl⟩ := ownsRow_succ hown7
      obtain ⟨e7, f7, hfin1, hfin2⟩ := HSd.out.fin (nn := (T.bl.length : Int)) _ hown7 hg7 (by rw [World.size_alloc]; exact hat7)
      have Hf := Lib.hid (And.intro hfin1 hfin2)
      clear hfin1 hfin2 hown7 hg7 hat7
      go_wp2_with fail
      go_end0
      exact ⟨⟨_, rfl⟩, _, Vb2, xs2, by rw [Hput2.out]; exact Hf.out.1, Hbf.out.trans Hf.out.2 (fun _ _ h => h) Hown.out⟩
end Go.Vir



namespace Go.Vir
open Go Go.RowKit Go.Proofs
attribute [local go_sem] Oper.semAt_some

set_option maxHeartbeats 800000 in
theorem ref_Ints (A B : Option Addr) (n c m d : Nat) (xs ys : List Int) (w : World) (hx : Ints w w.heap.size A n xs) (hy : Ints w w.heap.size B m ys) (hn : n ≤ 1000000) :
    Calls Tryz.prog 64 #[.slice A n c, .slice B m d] w fun e w' => e = .returned (.bool (decide (xs = ys))) ∧ Below w.heap.size w w' := by
  have hxl := hx.len
  have hyl := hy.len
  by_cases hnm : n = m
  · subst hnm
    have Hxl := Lib.hid hxl
    have Hyl := Lib.hid hyl
    clear hxl hyl
    go_enter Tryz.func64, Tryz.ntmps64
    go_wp2
    go_loopw [5] (fun i wr => ∃ k : Nat, k ≤ n ∧ i = .int .i64 (k : Int) ∧ xs.take k = ys.take k ∧ Below w.heap.size w wr) (fun i _ => n - (RowKit.intOf i).toNat)
    case atStart => exact ⟨0, Nat.zero_le _, rfl, rfl, Below.refl _ _⟩
    case round =>
      obtain ⟨k, hk, rfl, htk, hbr⟩ := hrel
      rcases Nat.lt_or_ge k n with hlt | hge
      · obtain ⟨xb, xo, rfl, hxb, hxc⟩ := hx.at_ (by omega)
        obtain ⟨yb, yo, rfl, hyb, hyc⟩ := hy.at_ (by omega)
        have hkx : k < xs.length := by rw [Hxl.out]; exact hlt
        have hky : k < ys.length := by rw [Hyl.out]; exact hlt
        have x0 := (cellOf hbr hxb).trans (hxc k hkx)
        have y0 := (cellOf hbr hyb).trans (hyc k hky)
        have hst : xs[k] = ys[k] → xs.take (k + 1) = ys.take (k + 1) := fun e => by
          rw [List.take_succ_eq_append_getElem hkx, List.take_succ_eq_append_getElem hky, htk, e]
        have hne : xs[k] ≠ ys[k] → xs ≠ ys := fun h e => h (by subst e; rfl)
        have Hst := Lib.hid hst
        have Hne := Lib.hid hne
        clear hxc hyc hst hne htk
        generalize xs[k] = a at *
        generalize ys[k] = b at *
        go_upto_region 6 with fail
        go_quiet (fail)
        have hbq := hbr.trans (below_drewN w.heap.size wr nq)
        rcases hab : (a != b) with _ | _
        · have h1 : a = b := by simpa using hab
          have h2 := Hst.out h1
          have H2 := Lib.hid h2
          clear h1 h2
          go_wp2_with fail
          go_roundw
          case rel => exact ⟨k + 1, by omega, by go_num, H2.out, hbq⟩
          case measure => simp [RowKit.intOf]; omega
        · have h1 : decide (xs = ys) = false := by
            have : a ≠ b := by simpa using hab
            exact decide_eq_false (Hne.out this)
          have H1 := Lib.hid h1
          clear h1
          go_wp2_with fail
          go_ret
          exact ⟨ret_bool H1.out.symm, hbq⟩
      · have h1 : decide (xs = ys) = true := by
          rw [List.take_of_length_le (by rw [Hxl.out]; exact hge), List.take_of_length_le (by rw [Hyl.out]; exact hge)] at htk
          exact decide_eq_true htk
        have H1 := Lib.hid h1
        clear h1 htk
        go_wp2_with fail
        go_ret
        exact ⟨ret_bool H1.out.symm, hbr⟩
  · have h1 : decide (xs = ys) = false := decide_eq_false (fun e => hnm (by rw [← hxl, ← hyl, e]))
    have H1 := Lib.hid h1
    have hne : ((n : Int) != (m : Int)) = true := by rw [bne_iff_ne]; omega
    clear hxl hyl h1
    go_enter Tryz.func64, Tryz.ntmps64
    go_wp2
    go_ret
    exact ⟨ret_bool H1.out.symm, Below.refl _ _⟩
end Go.Vir


namespace Go.Vir
open Go Go.RowKit Go.Proofs
attribute [local go_sem] Oper.semAt_some

structure BadT (T : TrV) (nb : Nat) (R : Bool) : Prop where
  ix : ∀ (k : Nat) (h : k < T.ix.length), ¬ (0 ≤ T.ix[k] ∧ T.ix[k] < nb) → R = false
  bl : ∀ (k : Nat) (h : k < T.bl.length), T.bl[k].length ≠ 256 → R = false
  v : ∀ (k : Nat) (h : k < T.bl.length) (j : Nat) (hj : j < T.bl[k].length), ¬ (0 ≤ T.bl[k][j] ∧ T.bl[k][j] ≤ 31) → R = false
  all : T.ix.length = 4352 → (∀ (k : Nat) (h : k < T.ix.length), 0 ≤ T.ix[k] ∧ T.ix[k] < nb) → (∀ (k : Nat) (h : k < T.bl.length), T.bl[k].length = 256 ∧ ∀ (j : Nat) (hj : j < T.bl[k].length), 0 ≤ T.bl[k][j] ∧ T.bl[k][j] ≤ 31) → R = true
theorem badT (T : TrV) (nb : Nat) (h : T.bl.length = nb) : BadT T nb (rightT T) := by
  subst h
  refine ⟨fun k h hn => ?_, fun k h hn => ?_, fun k h j hj hn => ?_, fun h1 h2 h3 => ?_⟩
  · rw [Bool.eq_false_iff]; exact fun hr => hn ((right_parts hr).2.1 _ (List.getElem_mem h))
  · rw [Bool.eq_false_iff]; exact fun hr => hn ((right_parts hr).2.2 _ (List.getElem_mem h)).1
  · rw [Bool.eq_false_iff]; exact fun hr => hn (((right_parts hr).2.2 _ (List.getElem_mem h)).2 _ (List.getElem_mem hj))
  · unfold rightT blkB
    simp only [Bool.and_eq_true, List.all_eq_true, decide_eq_true_eq]
    refine ⟨h1, fun n hn => ?_, fun b hb => ?_⟩
    · obtain ⟨k, hk, rfl⟩ := List.getElem_of_mem hn; exact h2 k hk
    · obtain ⟨k, hk, rfl⟩ := List.getElem_of_mem hb
      refine ⟨(h3 k hk).1, fun v hv => ?_⟩
      obtain ⟨j, hj, rfl⟩ := List.getElem_of_mem hv
      exact (h3 k hk).2 j hj

set_option maxRecDepth 100000 in
set_option maxHeartbeats 4000000 in
theorem ref06_Right (Ai : Option Addr) (ni ci : Nat) (Ab : Option Addr) (nb cb : Nat) (T : TrV) (w : World) (hT : Tri w w.heap.size Ai ni Ab nb T) (hi : ni ≤ 1000000) (hnb : nb ≤ 1000000) :
    Calls Tryz.prog 69 #[.agg #[.slice Ai ni ci, .slice Ab nb cb]] w fun e w' => e = .returned (.bool (rightT T)) ∧ Below w.heap.size w w' := by
  have hbad := badT T nb hT.bl.len
  have hil := hT.ix.len
  have hbl := hT.bl.len
  have hR0 : ni ≠ 4352 → rightT T = false := fun h => by
    rw [Bool.eq_false_iff]; exact fun hr => h (by rw [← hil]; exact (right_parts hr).1)
  generalize rightT T = R at *
  have hbw0 : Below w.heap.size w (w.alloc (.cells #[.slice Ai ni ci, .slice Ab nb cb] 40)) := by go_grown
  have hbx : (w.alloc (.cells #[.slice Ai ni ci, .slice Ab nb cb] 40)).heap[w.heap.size]? = some (.cells #[.slice Ai ni ci, .slice Ab nb cb] 40 (0, 0)) := heap_new rfl
  have hs0 : (w.alloc (.cells #[.slice Ai ni ci, .slice Ab nb cb] 40)).heap.size = w.heap.size + 1 := by simp
  have HT := Lib.hid hT
  have Hbad := Lib.hid hbad
  have Hil := Lib.hid hil
  have Hbl := Lib.hid hbl
  clear hT hbad hil hbl
  by_cases h : ni = 4352
  rotate_left
  · have e1 : ((ni : Int) != 4352) = true := by rw [bne_iff_ne]; omega
    have hR := hR0 h
    subst hR
    clear hR0 hbx hs0
    go_enter Tryz.func69, Tryz.ntmps69
    go_wp2_with fail
    go_ret
    exact ⟨rfl, hbw0⟩
  · subst h
    clear hR0
    go_enter Tryz.func69, Tryz.ntmps69
    generalize hW0 : w.alloc (.cells #[.slice Ai 4352 ci, .slice Ab nb cb] 40) = W0 at hbw0 hbx hs0
    have Hbw0 := Lib.hid hbw0
    have Hbx := Lib.hid hbx
    have Hs0 := Lib.hid hs0
    have c0 : W0.cell? ⟨w.heap.size, 0, none⟩ = some (.slice Ai 4352 ci) := cell_blk Hbx.out 0
    clear hbw0 hbx hs0
    go_wp2_with fail
    clear hW0 c0
    go_loopw [3] (fun i wr => ∃ k : Nat, k ≤ 4352 ∧ i = .int .i64 (k : Int) ∧ (∀ (j : Nat) (_ : j < k) (h : j < T.ix.length), 0 ≤ T.ix[j] ∧ T.ix[j] < nb) ∧ Below W0.heap.size W0 wr) (fun i _ => 4352 - (RowKit.intOf i).toNat)
    case atStart => exact ⟨0, Nat.zero_le _, rfl, fun j h => absurd h (by omega), Below.refl _ _⟩
    case round =>
      obtain ⟨k, hk, rfl, hno, hbr⟩ := hrel
      have hs0 := Hs0.out
      have u0 : wr.cell? ⟨w.heap.size, 0, none⟩ = some (.slice Ai 4352 ci) := (cellOf hbr (by omega)).trans (cell_blk Hbx.out 0)
      have u1 : wr.cell? ⟨w.heap.size, 1, none⟩ = some (.slice Ab nb cb) := (cellOf hbr (by omega)).trans (cell_blk Hbx.out 1)
      rcases Nat.lt_or_ge k 4352 with hlt | hge
      · obtain ⟨ib, io, rfl, hib, hic⟩ := HT.out.ix.at_ (by omega)
        have hkl : k < T.ix.length := by rw [Hil.out]; exact hlt
        have u2 := (cellOf hbr (by omega)).trans ((cellOf Hbw0.out hib).trans (hic k hkl))
        have hb1 := Hbad.out.ix k hkl
        have hno2 : (0 ≤ T.ix[k] ∧ T.ix[k] < nb) → ∀ (j : Nat) (_ : j < k + 1) (h : j < T.ix.length), 0 ≤ T.ix[j] ∧ T.ix[j] < nb := fun hx j h1 h2 => by
          rcases Nat.lt_or_ge j k with h3 | h3
          · exact hno j h3 h2
          · obtain rfl : j = k := by omega
            exact hx
        generalize hx : T.ix[k] = x at u2 hb1 hno2
        have Hb1 := Lib.hid hb1
        have Hno2 := Lib.hid hno2
        clear hno hb1 hno2 hx hic
        rcases h1 : decide (x < 0) with _ | _
        · rcases h2 : decide (x ≥ (nb : Int)) with _ | _
          · have hn := Hno2.out (by simp at h1 h2; omega)
            have Hn := Lib.hid hn
            clear hn
            go_upto_region 6 with fail
            go_quiet (fail)
            go_wp2_with fail
            go_roundw
            case rel => exact ⟨k + 1, by omega, by go_num, Hn.out, hbr.trans (below_drewN _ _ _)⟩
            case measure => simp [RowKit.intOf]; omega
          · have hn := Hb1.out (by simp at h2; omega)
            subst hn
            go_upto_region 6 with fail
            go_quiet (fail)
            go_wp2_with fail
            go_ret
            exact ⟨rfl, Hbw0.out.trans (Below.mono (hbr.trans (below_drewN _ _ _)) Hbw0.out.size)⟩
        · have hn := Hb1.out (by simp at h1; omega)
          subst hn
          go_upto_region 6 with fail
          go_quiet (fail)
          go_wp2_with fail
          go_ret
          exact ⟨rfl, Hbw0.out.trans (Below.mono (hbr.trans (below_drewN _ _ _)) Hbw0.out.size)⟩
      · obtain rfl : k = 4352 := by omega
        have Hno := Lib.hid (fun (j : Nat) (h : j < T.ix.length) => hno j (by have := Hil.out; omega) h)
        clear hno
        go_wp2_with fail
        go_loopw [4] (fun i wr => ∃ k : Nat, k ≤ nb ∧ i = .int .i64 (k : Int) ∧ (∀ (j : Nat) (_ : j < k) (h : j < T.bl.length), T.bl[j].length = 256 ∧ ∀ (i : Nat) (hj : i < T.bl[j].length), 0 ≤ T.bl[j][i] ∧ T.bl[j][i] ≤ 31) ∧ Below W0.heap.size W0 wr) (fun i _ => nb - (RowKit.intOf i).toNat)
        case atStart => exact ⟨0, Nat.zero_le _, rfl, fun j h => absurd h (by omega), hbr⟩
        case round =>
          obtain ⟨k, hk, rfl, hno, hbr⟩ := hrel
          have hs0 := Hs0.out
          have u0 : wr.cell? ⟨w.heap.size, 0, none⟩ = some (.slice Ai 4352 ci) := (cellOf hbr (by omega)).trans (cell_blk Hbx.out 0)
          have u1 : wr.cell? ⟨w.heap.size, 1, none⟩ = some (.slice Ab nb cb) := (cellOf hbr (by omega)).trans (cell_blk Hbx.out 1)
          rcases Nat.lt_or_ge k nb with hlt | hge
          · obtain ⟨bb, bo, rfl, hbb, hbc⟩ := HT.out.bl.at_ (by omega)
            have hkl : k < T.bl.length := by rw [Hbl.out]; exact hlt
            obtain ⟨A', n', c', g1, g2, _⟩ := hbc k hkl
            have u2 := (cellOf hbr (by omega)).trans ((cellOf Hbw0.out hbb).trans g1)
            have hln := g2.len
            have hb1 := Hbad.out.bl k hkl
            have hb2 := Hbad.out.v k hkl
            have hno2 : (T.bl[k].length = 256 ∧ ∀ (i : Nat) (hj : i < T.bl[k].length), 0 ≤ T.bl[k][i] ∧ T.bl[k][i] ≤ 31) → ∀ (j : Nat) (_ : j < k + 1) (h : j < T.bl.length), T.bl[j].length = 256 ∧ ∀ (i : Nat) (hj : i < T.bl[j].length), 0 ≤ T.bl[j][i] ∧ T.bl[j][i] ≤ 31 := fun hx j h1 h2 => by
              rcases Nat.lt_or_ge j k with h3 | h3
              · exact hno j h3 h2
              · obtain rfl : j = k := by omega
                exact hx
            generalize T.bl[k] = b at *
            have Hb1 := Lib.hid hb1
            have Hb2 := Lib.hid hb2
            have Hno2 := Lib.hid hno2
            have Hg2 := Lib.hid g2
            clear hno hb1 hb2 hno2 hbc g1 g2
            by_cases h256 : n' = 256
            rotate_left
            · have hn := Hb1.out (by omega)
              subst hn
              have e1 : ((n' : Int) != 256) = true := by rw [bne_iff_ne]; omega
              clear hln h256
              go_wp2_with fail
              go_ret
              exact ⟨rfl, Hbw0.out.trans (Below.mono hbr Hbw0.out.size)⟩
            · subst h256
              have Hln := Lib.hid hln
              obtain ⟨cb', co, rfl, hcb, hcc⟩ := Hg2.out.at_ (by omega)
              have Hcc := Lib.hid hcc
              clear hln hcc
              go_wp2_with fail
              go_loopw [5] (fun i wr2 => ∃ j : Nat, j ≤ 256 ∧ i = .int .i64 (j : Int) ∧ (∀ (i : Nat) (_ : i < j) (h : i < b.length), 0 ≤ b[i] ∧ b[i] ≤ 31) ∧ wr2 = wr) (fun i _ => 256 - (RowKit.intOf i).toNat)
              case atStart => exact ⟨0, Nat.zero_le _, rfl, fun j h => absurd h (by omega), rfl⟩
              case round =>
                obtain ⟨j, hj, rfl, hnj, hwe⟩ := hrel
                subst hwe
                rcases Nat.lt_or_ge j 256 with hlt | hge
                · have hjl : j < b.length := by rw [Hln.out]; exact hlt
                  have u3 := (cellOf hbr (by omega)).trans ((cellOf Hbw0.out hcb).trans (Hcc.out j hjl))
                  have hb2 := Hb2.out j hjl
                  have hnj2 : (0 ≤ b[j] ∧ b[j] ≤ 31) → ∀ (i : Nat) (_ : i < j + 1) (h : i < b.length), 0 ≤ b[i] ∧ b[i] ≤ 31 := fun hx i h1 h2 => by
                    rcases Nat.lt_or_ge i j with h3 | h3
                    · exact hnj i h3 h2
                    · obtain rfl : i = j := by omega
                      exact hx
                  generalize b[j] = x at *
                  have Hb3 := Lib.hid hb2
                  have Hnj2 := Lib.hid hnj2
                  clear hb2 hnj2 hnj
                  rcases h1 : decide (x < 0) with _ | _
                  · rcases h2 : decide (x > 31) with _ | _
                    · have hn := Hnj2.out (by simp at h1 h2; omega)
                      have Hn := Lib.hid hn
                      clear hn
                      go_wp2_with fail
                      go_roundw
                      case rel => exact ⟨j + 1, by omega, by go_num, Hn.out, by first | trivial | rfl⟩
                      case measure => simp [RowKit.intOf]; omega
                    · have hn := Hb3.out (by simp at h2; omega)
                      subst hn
                      go_wp2_with fail
                      go_ret
                      exact ⟨rfl, Hbw0.out.trans (Below.mono hbr Hbw0.out.size)⟩
                  · have hn := Hb3.out (by simp at h1; omega)
                    subst hn
                    go_wp2_with fail
                    go_ret
                    exact ⟨rfl, Hbw0.out.trans (Below.mono hbr Hbw0.out.size)⟩
                · obtain rfl : j = 256 := by omega
                  have hn := Hno2.out ⟨Hln.out, fun i hi => hnj i (by have := Hln.out; omega) hi⟩
                  have Hn := Lib.hid hn
                  clear hn hnj
                  go_wp2_with fail
                  go_roundw
                  case rel => exact ⟨k + 1, by omega, by go_num, Hn.out, hbr⟩
                  case measure => simp [RowKit.intOf]; omega
          · obtain rfl : k = nb := by omega
            have hn := Hbad.out.all Hil.out Hno.out (fun j h => hno j (by have := Hbl.out; omega) h)
            subst hn
            clear hno
            go_wp2_with fail
            go_ret
            exact ⟨rfl, Hbw0.out.trans (Below.mono hbr Hbw0.out.size)⟩
end Go.Vir

