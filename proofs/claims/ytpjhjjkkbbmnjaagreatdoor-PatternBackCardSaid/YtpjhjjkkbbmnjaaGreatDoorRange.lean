/- Loops over a function: the law of one range statement. No program. -/
import Derived.RangeFuncNested
import Derived.RangeFuncBound
import Derived.RangeFuncCalls
import Derived.RangeFuncLeaves
import Derived.WalkKit
import Derived.OwnWalkIn
import Derived.TacticsInMore
import Derived.LoopNIn
import Derived.LoopIn
import Derived.RangeFuncBox
import Derived.Maps.AppendAt
namespace Go.Vir
open Go Go.RowKit

def isData : Obj → Bool
  | .cells .. => true
  | .map .. => true
  | _ => false

/-- Between A and B only new blocks and the blocks of O have changed. -/
structure Apart (O : Nat → Prop) (A B : World) : Prop where
  os : B.os = A.os
  tape : B.tape = A.tape
  output : B.output = A.output
  size : A.heap.size ≤ B.heap.size
  block : ∀ k : Nat, k < A.heap.size → ¬ O k → B.heap[k]? = A.heap[k]?

/-- Likewise, and what is no data from B0 on may have changed. -/
structure Moves (B0 : Nat) (O : Nat → Prop) (A B : World) : Prop where
  os : B.os = A.os
  tape : B.tape = A.tape
  output : B.output = A.output
  size : A.heap.size ≤ B.heap.size
  low : ∀ k : Nat, k < B0 → ¬ O k → B.heap[k]? = A.heap[k]?
  data : ∀ (k : Nat) (o : Obj), A.heap[k]? = some o → isData o = true → ¬ O k → B.heap[k]? = some o

/-- What a round keeps. -/
structure Keeps (B0 : Nat) (O : Nat → Prop) (A B : World) : Prop where
  size : A.heap.size ≤ B.heap.size
  low : ∀ k : Nat, k < B0 → B.heap[k]? = A.heap[k]?
  own : ∀ k : Nat, O k → B.heap[k]? = A.heap[k]?
  other : ∀ (k : Nat) (o : Obj), A.heap[k]? = some o → isData o = false → B.heap[k]? = some o

section
variable {B0 : Nat} {O : Nat → Prop} {A B C : World}

theorem Apart.refl (O : Nat → Prop) (A : World) : Apart O A A := ⟨rfl, rfl, rfl, Nat.le_refl _, fun _ _ _ => rfl⟩
theorem Apart.trans (h : Apart O A B) (k : Apart O B C) : Apart O A C :=
  ⟨k.os.trans h.os, k.tape.trans h.tape, k.output.trans h.output, Nat.le_trans h.size k.size, fun i hi ho => (k.block i (Nat.lt_of_lt_of_le hi h.size) ho).trans (h.block i hi ho)⟩
theorem Apart.below (h : Below A.heap.size A B) : Apart O A B := ⟨h.os, h.tape, h.output, h.size, fun k hk _ => h.block k hk⟩
theorem Apart.alloc (A : World) (o : Obj) : Apart O A (A.alloc o) := Apart.below ((Below.refl _ A).alloc (Nat.le_refl _) o)
theorem Apart.drew (A : World) : Apart O A A.drew := Apart.below (Below.refl _ A).drew
theorem Apart.setCell (A : World) {p : Addr} (hp : O p.block) (u : Value) : Apart O A (A.setCell p u) :=
  ⟨rfl, rfl, rfl, by simp [World.setCell], fun k _ ho => Below.heap_setCell _ _ _ _ (fun e => ho (e ▸ hp))⟩

theorem Moves.refl (B0 : Nat) (O : Nat → Prop) (A : World) : Moves B0 O A A := ⟨rfl, rfl, rfl, Nat.le_refl _, fun _ _ _ => rfl, fun _ _ h _ _ => h⟩
theorem Moves.trans (h : Moves B0 O A B) (k : Moves B0 O B C) : Moves B0 O A C :=
  ⟨k.os.trans h.os, k.tape.trans h.tape, k.output.trans h.output, Nat.le_trans h.size k.size, fun i hi ho => (k.low i hi ho).trans (h.low i hi ho),
   fun i o hi hd ho => k.data i o (h.data i o hi hd ho) hd ho⟩
theorem Apart.moves (h : Apart O A B) (hB : B0 ≤ A.heap.size) : Moves B0 O A B :=
  ⟨h.os, h.tape, h.output, h.size, fun k hk ho => h.block k (by omega) ho, fun k o hk _ ho => (h.block k (Array.getElem?_eq_some_iff.1 hk).1 ho).trans hk⟩
theorem Moves.putObj {l : Nat} {o o' : Obj} (hl : B0 ≤ l) (h : A.heap[l]? = some o) (ho : isData o = false) : Moves B0 O A (A.putObj l o') :=
  ⟨rfl, rfl, rfl, by simp, fun k hk _ => World.putObj_heap_other (by omega), fun k o2 hk hd _ => by
    by_cases e : k = l
    · subst e; rw [h] at hk; cases hk; rw [ho] at hd; cases hd
    · rw [World.putObj_heap_other e]; exact hk⟩

theorem Keeps.refl (B0 : Nat) (O : Nat → Prop) (A : World) : Keeps B0 O A A := ⟨Nat.le_refl _, fun _ _ => rfl, fun _ _ => rfl, fun _ _ h _ => h⟩
theorem Keeps.less {O' : Nat → Prop} (h : Keeps B0 O A B) (hO : ∀ k, O' k → O k) : Keeps B0 O' A B := ⟨h.size, h.low, fun k hk => h.own k (hO k hk), h.other⟩
theorem Keeps.trans (h : Keeps B0 O A B) (k : Keeps B0 O B C) : Keeps B0 O A C :=
  ⟨Nat.le_trans h.size k.size, fun i hi => (k.low i hi).trans (h.low i hi), fun i hi => (k.own i hi).trans (h.own i hi), fun i o hi hd => k.other i o (h.other i o hi hd) hd⟩
theorem Keeps.below (hO : ∀ k, O k → k < A.heap.size) (hB : B0 ≤ A.heap.size) (h : Below A.heap.size A B) : Keeps B0 O A B :=
  ⟨h.size, fun k hk => h.block k (by omega), fun k hk => h.block k (hO k hk), fun k o hk _ => (h.block k (Array.getElem?_eq_some_iff.1 hk).1).trans hk⟩
theorem Keeps.setCell (A : World) {p : Addr} (hp : ¬ O p.block) (hB : B0 ≤ p.block) (u : Value) : Keeps B0 O A (A.setCell p u) :=
  ⟨by simp [World.setCell], fun k hk => Below.heap_setCell _ _ _ _ (by omega), fun k hk => Below.heap_setCell _ _ _ _ (fun e => hp (e ▸ hk)), fun k o hk hd => by
    by_cases e : k = p.block
    · subst e
      simp only [World.setCell, Array.getElem?_modify, if_true, hk, Option.map_some]
      cases o <;> first | rfl | (simp [isData] at hd)
    · exact (Below.heap_setCell _ _ _ _ e).trans hk⟩
theorem Keeps.grown {row : Option Nat} (hO : ∀ k, O k → k < A.heap.size) (hB : B0 ≤ A.heap.size) (hg : A.grownBy B row)
    (hr : ∀ k, row = some k → B0 ≤ k ∧ ¬ O k ∧ ∃ o, A.heap[k]? = some o ∧ isData o = true) : Keeps B0 O A B :=
  ⟨hg.size, fun k hk => hg.block k (by omega) (fun e => by have := (hr k e.symm).1; omega), fun k hk => hg.block k (hO k hk) (fun e => (hr k e.symm).2.1 hk),
   fun k o hk hd => (hg.block k (Array.getElem?_eq_some_iff.1 hk).1 (fun e => by
     obtain ⟨_, _, o', h1, h2⟩ := hr k e.symm
     rw [hk] at h1; cases h1; rw [hd] at h2; cases h2)).trans hk⟩
end

/-- The contract of an iterator: N rounds, round i with 'encs i'; it writes the blocks of O alone. -/
def Iter (P : Program) (gf : Nat) (lb : Array Value) (N : Nat) (encs : Nat → Array Value) (O : Nat → Prop) (B0 : Nat) (W0 : World) : Prop :=
  ∀ (l : Nat) (J Jx : Nat → World → Prop) (W : World), Below W0.heap.size W0 W →
    (∀ i A B, J i A → Apart O A B → J i B) → (∀ i A B, Jx i A → Apart O A B → Jx i B) →
    (∀ i W, i < N → J i W → YieldAt Fence.wide 0 P l (encs i) W fun e W' =>
      (e = .returned (.bool true) ∧ J (i + 1) W' ∧ Keeps B0 O W W') ∨ (e = .returned (.bool false) ∧ Jx i W')) →
    J 0 W → CallsIn Fence.wide 0 P gf (#[.func (.yield l) #[] #[]] ++ lb) W fun e W' => (∃ v, e = .returned v) ∧ (J N W' ∨ ∃ i, i < N ∧ Jx i W')

/-- How a round's body may be left. -/
def roundEnd (B0 : Nat) (O : Nat → Prop) (I : Nat → World → Prop) (Ix : Nat → Code → World → Prop) (i : Nat) (W : World) : Exit → Act → World → Prop
  | .normal, _, W' => Keeps B0 O W W' ∧ I (i + 1) W'
  | .ret, _, W' => Keeps B0 O W W' ∧ Ix i .ret W'
  | .exit id, _, W' => Keeps B0 O W W' ∧ Ix i (.exit id) W'
  | .goto t, _, W' => Keeps B0 O W W' ∧ Ix i (.goto t) W'
  | .panic _, _, _ => False
  | .outgrown, _, _ => False

theorem range_law {P : Program} {g : Operand} {ps : Array Tmp} {assign body : Code} {Q : Exit → Act → World → Prop} {a : Act} {w : World}
    {gf : Nat} {lb : Array Value} {N : Nat} {encs : Nat → Array Value} {O : Nat → Prop} {B0 : Nat} {W0 : World}
    (hg : a.eval g = .func (.func gf) #[] lb) (eg : ∀ args w, (callFunc gf args).run P w = .ok (.enter gf args) w)
    (hit : Iter P gf lb N encs O B0 W0) (hb0 : Below W0.heap.size W0 w) (hO : ∀ k, O k → k < w.heap.size) (hB0 : B0 ≤ w.heap.size)
    (hps : ∀ i, (encs i).size = ps.size)
    (I : Nat → World → Prop) (Ix : Nat → Code → World → Prop)
    (hI : ∀ i A B, I i A → Moves B0 O A B → I i B) (hIx : ∀ i c A B, Ix i c A → Moves B0 O A B → Ix i c B) (h0 : I 0 w) (a₁ : Nat → Act)
    (hassign : ∀ (l i : Nat) (W : World) (K : Act → World → Prop), K (a₁ i) W →
      assign.wpIn (Fence.wide.inRound l) 0 P (Exit.then K (fun _ _ _ => False)) { tmps := (ps.zip (encs i)).foldl (fun t (p, v) => t.setIfInBounds p v) a.tmps, defers := [] } W)
    (hbody : ∀ (l i : Nat) (W : World), i < N → I i W → w.heap.size ≤ W.heap.size → body.wpIn (Fence.wide.inRound l) 0 P (roundEnd B0 O I Ix i W) (a₁ i) W)
    (hdone : ∀ (D : Nat) (W : World), w.heap.size ≤ D → I N W → W.heap[D]? = some (.deferred (some [])) → Q .normal { a with defers := { target := .collected D, args := #[] } :: a.defers } W)
    (hstop : ∀ (D i : Nat) (c : Code) (W : World), w.heap.size ≤ D → i < N → Ix i c W → W.heap[D]? = some (.deferred (some [])) → c.wpIn Fence.wide 0 P Q { a with defers := { target := .collected D, args := #[] } :: a.defers } W) :
    (Code.rangeFunc g ps assign body).wpIn Fence.wide 0 P Q a w := by
  refine wpIn_rangeFunc ?_
  intro fn hfn
  obtain ⟨rec, hrec⟩ : ∃ rec : LoopState → Option Code → Loop, rec = fun st pe => { state := st, pending := pe, fn, tmps := a.tmps, params := ps, assign, body, defers := w.heap.size } := ⟨_, rfl⟩
  obtain ⟨W1, hW1⟩ : ∃ W1, (w.alloc (.deferred (some []))).alloc (.loop (rec .ready none)) = W1 := ⟨_, rfl⟩
  have hL1 : W1.heap[w.heap.size + 1]? = some (.loop (rec .ready none)) := by
    rw [← hW1]; have := World.alloc_heap_new (w.alloc (.deferred (some []))) (.loop (rec .ready none)); rwa [World.size_alloc] at this
  have hK1 : W1.heap[w.heap.size]? = some (.deferred (some [])) := by
    rw [← hW1]; exact (Below.heap_alloc _ _ _ (by simp)).trans (World.alloc_heap_new w _)
  have hsz : W1.heap.size = w.heap.size + 2 := by rw [← hW1]; simp
  have hbw : Below w.heap.size w W1 := by rw [← hW1]; exact ((Below.refl _ w).alloc (Nat.le_refl _) _).alloc (by simp) _
  have hI1 : I 0 W1 := hI _ _ _ h0 ((Apart.below hbw).moves hB0)
  have hb1 : Below W0.heap.size W0 W1 := hb0.trans (hbw.mono hb0.size)
  refine ⟨w.heap.size + 1, [{ target := .collected w.heap.size, args := #[] }], W1, { target := .fn (.func gf) lb, args := #[.func (.yield (w.heap.size + 1)) #[] #[]] }, W1, gf,
    #[.func (.yield (w.heap.size + 1)) #[] #[]] ++ lb, W1, ?_, ?_, ?_, ?_, fun _ => by simp [Fence.wide] at *, ?_⟩
  · rw [← hW1, hrec]; exact run_enterLoop_outer _ _ _ _ _
  · simp only [resolve, hg]
    simp [go_sem]
  · intro f' _; trivial
  · simp [invoke, go_sem, eg]
  · have hnO : ∀ k, w.heap.size ≤ k → ¬ O k := fun k hk ho => by have := hO k ho; omega
    refine (hit (w.heap.size + 1)
      (fun i W => I i W ∧ W.heap[w.heap.size + 1]? = some (.loop (rec .ready none)) ∧ W.heap[w.heap.size]? = some (.deferred (some [])))
      (fun i W => ∃ c, Ix i c W ∧ W.heap[w.heap.size + 1]? = some (.loop (rec .done (some c))) ∧ W.heap[w.heap.size]? = some (.deferred (some [])))
      W1 hb1 ?_ ?_ ?_ ⟨hI1, hL1, hK1⟩).mono ?_
    · rintro i A B ⟨h1, h2, h3⟩ hap
      have hs := (Array.getElem?_eq_some_iff.1 h2).1
      exact ⟨hI _ _ _ h1 (hap.moves (by omega)), (hap.block _ hs (hnO _ (by omega))).trans h2, (hap.block _ (by omega) (hnO _ (by omega))).trans h3⟩
    · rintro i A B ⟨c, h1, h2, h3⟩ hap
      have hs := (Array.getElem?_eq_some_iff.1 h2).1
      exact ⟨c, hIx _ _ _ _ h1 (hap.moves (by omega)), (hap.block _ hs (hnO _ (by omega))).trans h2, (hap.block _ (by omega) (hnO _ (by omega))).trans h3⟩
    · rintro i W hi ⟨hi0, hl, hk⟩
      have hlt : w.heap.size + 1 < W.heap.size := (Array.getElem?_eq_some_iff.1 hl).1
      have hy := run_yield (P := P) (args := encs i) hl (by rw [hrec]; exact hps i)
      rw [hrec] at hy
      refine ⟨fn, _, assign, body, hy, roundIn_of_wpIn hfn (hassign _ i W _ ⟨_, run_beginRound hl (by rw [hrec]), ?_⟩)⟩
      have hl2 : (W.putObj (w.heap.size + 1) (.loop { rec .ready none with state := .busy })).heap[w.heap.size + 1]? = some (.loop { rec .ready none with state := .busy }) := World.putObj_heap_same hlt
      have hk2 : (W.putObj (w.heap.size + 1) (.loop { rec .ready none with state := .busy })).heap[w.heap.size]? = some (.deferred (some [])) := (World.putObj_heap_other (by omega)).trans hk
      refine wpIn_mono (hbody _ i _ hi (hI _ _ _ hi0 (Moves.putObj (by omega) hl rfl)) (by simp; omega)) ?_
      have fin : ∀ (jump : Option Code) (W3 : World), Keeps B0 O (W.putObj (w.heap.size + 1) (.loop { rec .ready none with state := .busy })) W3 →
          (Instr.endRound (w.heap.size + 1) jump).run P W3 = .ok (.bool jump.isNone) (W3.putObj (w.heap.size + 1) (.loop (rec (if jump.isNone then .ready else .done) jump))) ∧
          W3.heap[w.heap.size + 1]? = some (.loop { rec .ready none with state := .busy }) ∧
          (W3.putObj (w.heap.size + 1) (.loop (rec (if jump.isNone then .ready else .done) jump))).heap[w.heap.size + 1]? = some (.loop (rec (if jump.isNone then .ready else .done) jump)) ∧
          (W3.putObj (w.heap.size + 1) (.loop (rec (if jump.isNone then .ready else .done) jump))).heap[w.heap.size]? = some (.deferred (some [])) := fun jump W3 hk3 => by
        have hl3 := hk3.other _ _ hl2 rfl
        have := run_endRound (P := P) jump hl3
        rw [hrec] at this ⊢
        exact ⟨this, by rw [hrec] at hl3; exact hl3, World.putObj_heap_same (Array.getElem?_eq_some_iff.1 hl3).1, (World.putObj_heap_other (by omega)).trans (hk3.other _ _ hk2 rfl)⟩
      rintro e a3 W3 hp
      cases e with
      | normal =>
        obtain ⟨hk3, hi3⟩ := hp
        obtain ⟨hr, hl3, hl4, hk4⟩ := fin none W3 hk3
        refine ⟨_, _, hr, .inl ⟨rfl, ⟨hI _ _ _ hi3 (Moves.putObj (by omega) hl3 rfl), hl4, hk4⟩, ?_⟩⟩
        have hs3 : w.heap.size + 1 < W3.heap.size := (Array.getElem?_eq_some_iff.1 hl3).1
        refine ⟨by have := hk3.size; simp at this ⊢; omega, fun k hk => ?_, fun k hk => ?_, fun k o ho hd => ?_⟩
        · rw [World.putObj_heap_other (by omega), hk3.low k hk, World.putObj_heap_other (by omega)]
        · have := hO k hk
          rw [World.putObj_heap_other (by omega), hk3.own k hk, World.putObj_heap_other (by omega)]
        · by_cases e : k = w.heap.size + 1
          · subst e; rw [hl] at ho; cases ho; exact hl4
          · rw [World.putObj_heap_other e]
            exact hk3.other k o (by rw [World.putObj_heap_other e]; exact ho) hd
      | ret =>
        obtain ⟨hk3, hi3⟩ := hp
        obtain ⟨hr, hl3, hl4, hk4⟩ := fin (some .ret) W3 hk3
        exact ⟨_, _, hr, .inr ⟨rfl, .ret, hIx _ _ _ _ hi3 (Moves.putObj (by omega) hl3 rfl), hl4, hk4⟩⟩
      | exit id =>
        obtain ⟨hk3, hi3⟩ := hp
        obtain ⟨hr, hl3, hl4, hk4⟩ := fin (some (.exit id)) W3 hk3
        exact ⟨_, _, hr, .inr ⟨rfl, .exit id, hIx _ _ _ _ hi3 (Moves.putObj (by omega) hl3 rfl), hl4, hk4⟩⟩
      | goto t =>
        obtain ⟨hk3, hi3⟩ := hp
        obtain ⟨hr, hl3, hl4, hk4⟩ := fin (some (.goto t)) W3 hk3
        exact ⟨_, _, hr, .inr ⟨rfl, .goto t, hIx _ _ _ _ hi3 (Moves.putObj (by omega) hl3 rfl), hl4, hk4⟩⟩
      | panic ch => exact hp.elim
      | outgrown => exact hp.elim
    · rintro e W2 ⟨⟨v, rfl⟩, (⟨hi, hl, hk⟩ | ⟨i, hiN, c, hi, hl, hk⟩)⟩
      · exact ⟨none, _, by have := run_endLoop (P := P) hl (by rw [hrec]; simp); rw [hrec] at this; exact this, hdone _ _ (Nat.le_refl _) (hI _ _ _ hi (Moves.putObj (by omega) hl rfl)) ((World.putObj_heap_other (by omega)).trans hk)⟩
      · exact ⟨some c, _, by have := run_endLoop (P := P) hl (by rw [hrec]; simp); rw [hrec] at this; exact this, hstop _ i c _ (Nat.le_refl _) hiN (hIx _ _ _ _ hi (Moves.putObj (by omega) hl rfl)) ((World.putObj_heap_other (by omega)).trans hk)⟩

/-- The world gets a name of its own. -/
theorem wp_gen {P : Program} {c : Code} {Q : Exit → Act → World → Prop} {a : Act} {w : World} (h : ∀ W, W = w → c.wp P Q a W) : c.wp P Q a w := h w rfl

theorem heap_new {w : World} {o : Obj} {k : Nat} (h : k = w.heap.size) : (w.alloc o).heap[k]? = some o := by
  subst h; exact World.alloc_heap_new w o
theorem heap_old {w : World} {o : Obj} {k : Nat} (h : k < w.heap.size) : (w.alloc o).heap[k]? = w.heap[k]? := Below.heap_alloc w o k h
theorem heap_drew (w : World) (k : Nat) : w.drew.heap[k]? = w.heap[k]? := rfl
theorem heap_laws : (∀ {w : World} {o : Obj} {k : Nat}, k = w.heap.size → (w.alloc o).heap[k]? = some o) ∧ (∀ {w : World} {o : Obj} {k : Nat}, k < w.heap.size → (w.alloc o).heap[k]? = w.heap[k]?) ∧
    (∀ (w : World) (k : Nat), w.drew.heap[k]? = w.heap[k]?) := ⟨heap_new, heap_old, heap_drew⟩
theorem heap_alloc_if (w : World) (o : Obj) (k : Nat) : (w.alloc o).heap[k]? = if k = w.heap.size then some o else w.heap[k]? := by
  show (w.heap.push o)[k]? = _
  rw [Array.getElem?_push]

theorem Below.moves {B B0 : Nat} {O : Nat → Prop} {w A C : World} (h : Below B w A) (hm : Moves B0 O A C) (hB : B ≤ B0) (hO : ∀ k, O k → B ≤ k) : Below B w C :=
  ⟨hm.os.trans h.os, hm.tape.trans h.tape, hm.output.trans h.output, Nat.le_trans h.size hm.size, fun k hk => (hm.low k (by omega) (fun ho => by have := hO k ho; omega)).trans (h.block k hk)⟩
theorem Moves.cells {B0 : Nat} {O : Nat → Prop} {A C : World} (hm : Moves B0 O A C) {k : Nat} {cs : Array Value} {t : TypeId} {m : Nat × Nat} (h : A.heap[k]? = some (.cells cs t m)) (hk : ¬ O k) : C.heap[k]? = some (.cells cs t m) :=
  hm.data _ _ h rfl hk

/-- append onto a row of the call's own, in a round; it says where the new row lies. -/
theorem wpListIn_append_at {F : Fence} {n : Nat} {P : Program} (w : World) {ops : Array Oper} {rest : List Oper} {o : Oper} {a : Act} {Q : Exit → Act → World → Prop}
    (hg : o.guard = none) (s x : Operand) (t : TypeId) (hop : o.op = Op.call { callee := Callee.builtin Builtin.append, args := #[s, x], argTypes := #[t, t] })
    (base : Nat) (e : TypeId) (i : TypeInfo) (z : Value) (size bytes : Nat) (h1 : P.underlying t = some (.slice e)) (h2 : P.info? e = some i) (h3 : i.zero = some z) (h4 : i.size = size) (h5 : i.bytes = bytes) (h6 : z.cells.size = size) (h7 : 0 < size)
    (v : Value) (k : Nat) (xs : List Value) (hs : a.eval s = v) (hown : w.ownsRow base e size v k xs) (ad : Addr) (m c : Nat) (news : List Value) (hx : a.eval x = .slice (some ad) m c) (hn : news.length = m * size)
    (hc : ∀ (j : Nat) (u : Value), news[j]? = some u → w.cell? (ad.add j) = some u) (h1c : ∀ u ∈ news, u.oneCell' = true) (b1 : k + m ≤ maxLen) (b2 : (k + m) * bytes ≤ 140737488355328) (b3 : base ≤ w.heap.size)
    (hK : ∀ v' w', w'.ownsRow base e size v' (k + m) (xs ++ news) → w.grownBy w' v.ownBlock → (v'.ownBlock = v.ownBlock ∨ v'.ownBlock = some w.heap.size) → wpListIn F n P ops Q rest (a.put o.dst v') w') :
    wpListIn F n P ops Q (o :: rest) a w := by
  refine wpListIn_plain hg fun K hK' => ?_
  obtain ⟨v', w', hrun, r1, r2, _, r3⟩ := run_append_own_at (P := P) w base t o.type e i z size bytes h1 h2 h3 h4 h5 h6 h7 v k xs hown ad m c news hn hc h1c b1 b2 b3
  unfold Oper.wpIn
  refine ⟨?_, ?_⟩
  · simp [Oper.about, hop, resolve, Target.leads, Sem.run_pure]
  · rw [Oper.semAt_plain F _ _ (by rw [hop]; intro c hc'; cases hc')]
    simp [execOp, hop, resolve, invoke, builtin, hs, hx, hrun, Result.andThen]
    exact hK' _ _ (hK v' w' r1 r2 r3)

/-- The same outside a round. -/
theorem wpList_append_at {P : Program} (w : World) {ops : Array Oper} {rest : List Oper} {o : Oper} {a : Act} {Q : Exit → Act → World → Prop}
    (hg : o.guard = none) (s x : Operand) (t : TypeId) (hop : o.op = Op.call { callee := Callee.builtin Builtin.append, args := #[s, x], argTypes := #[t, t] })
    (base : Nat) (e : TypeId) (i : TypeInfo) (z : Value) (size bytes : Nat) (h1 : P.underlying t = some (.slice e)) (h2 : P.info? e = some i) (h3 : i.zero = some z) (h4 : i.size = size) (h5 : i.bytes = bytes) (h6 : z.cells.size = size) (h7 : 0 < size)
    (v : Value) (k : Nat) (xs : List Value) (hs : a.eval s = v) (hown : w.ownsRow base e size v k xs) (ad : Addr) (m c : Nat) (news : List Value) (hx : a.eval x = .slice (some ad) m c) (hn : news.length = m * size)
    (hc : ∀ (j : Nat) (u : Value), news[j]? = some u → w.cell? (ad.add j) = some u) (h1c : ∀ u ∈ news, u.oneCell' = true) (b1 : k + m ≤ maxLen) (b2 : (k + m) * bytes ≤ 140737488355328) (b3 : base ≤ w.heap.size)
    (hK : ∀ v' w', w'.ownsRow base e size v' (k + m) (xs ++ news) → w.grownBy w' v.ownBlock → (v'.ownBlock = v.ownBlock ∨ v'.ownBlock = some w.heap.size) → wpList P ops Q rest (a.put o.dst v') w') :
    wpList P ops Q (o :: rest) a w := by
  refine wpList_plain hg fun K hK' => ?_
  obtain ⟨v', w', hrun, r1, r2, _, r3⟩ := run_append_own_at (P := P) w base t o.type e i z size bytes h1 h2 h3 h4 h5 h6 h7 v k xs hown ad m c news hn hc h1c b1 b2 b3
  unfold Oper.wp
  simp [execOp, hop, resolve, invoke, builtin, hs, hx, hrun, Result.andThen]
  exact hK' _ _ (hK v' w' r1 r2 r3)

theorem row_data {W : World} {base : Nat} {e : TypeId} {size : Nat} {v : Value} {k : Nat} {xs : List Value} (h : W.ownsRow base e size v k xs) : ∀ g, v.ownBlock = some g → base ≤ g ∧ ∃ o, W.heap[g]? = some o ∧ isData o = true := by
  intro g hg
  rcases h.2 with ⟨rfl, _⟩ | ⟨g', cap, cur, rfl, hb, hgb, _⟩
  · simp [Value.ownBlock] at hg
  · obtain rfl : g' = g := by simpa [Value.ownBlock] using hg
    exact ⟨hb, _, hgb, rfl⟩

/-- Behind 'out = append(out, ..)' in a round, out in a box. -/
theorem boxed_appendedK {W w1 : World} {O : Nat → Prop} {n₀ B : Nat} {t e : TypeId} {size : Nat} {v v' : Value} {k m : Nat} {xs ys : List Value} {tmp : Obj}
    (hv : Boxed W B t v) (hte : t ≠ e) (hrow : W.ownsRow n₀ e size v k xs) (hn₀ : n₀ ≤ W.heap.size) (hB : n₀ ≤ B) (hBO : ¬ O B) (hO : ∀ k, O k → k < W.heap.size) (hgO : ∀ g, v.ownBlock = some g → ¬ O g)
    (hown' : w1.ownsRow n₀ e size v' m ys) (hgrow : (W.alloc tmp).grownBy w1 v.ownBlock) (hat : v'.ownBlock = v.ownBlock ∨ v'.ownBlock = some (W.alloc tmp).heap.size) :
    Boxed w1 B t v ∧ Boxed (w1.setCell ⟨B, 0, none⟩ v') B t v' ∧ (w1.setCell ⟨B, 0, none⟩ v').ownsRow n₀ e size v' m ys ∧ Keeps n₀ O W (w1.setCell ⟨B, 0, none⟩ v') ∧ Below n₀ W (w1.setCell ⟨B, 0, none⟩ v') ∧ (∀ g, v'.ownBlock = some g → ¬ O g) := by
  obtain ⟨a1, a2, a3, _, a5⟩ := hv.appended hte hrow hn₀ hB hown' hgrow
  refine ⟨a1, a2, a3, ?_, a5, fun g hg => ?_⟩
  · refine ((Keeps.below hO hn₀ ((Below.refl _ W).alloc (Nat.le_refl _) tmp)).trans (Keeps.grown (fun k hk => by have := hO k hk; simp; omega) (by simp; omega) hgrow fun g hg => ?_)).trans (Keeps.setCell _ hBO hB _)
    obtain ⟨h1, h2⟩ := row_data (hrow.alloc tmp) g hg
    exact ⟨h1, hgO g hg, h2⟩
  · rcases hat with h | h
    · exact hgO g (by rw [← h]; exact hg)
    · rw [h] at hg
      intro ho
      have := hO g ho
      simp at hg
      omega

theorem ownsRow_moves {W W' : World} {B0 : Nat} {O : Nat → Prop} {e : TypeId} {size : Nat} {v : Value} {k base : Nat} {xs : List Value} (h : W.ownsRow base e size v k xs) (hm : Moves B0 O W W') (hgO : ∀ g, v.ownBlock = some g → ¬ O g) : W'.ownsRow base e size v k xs := by
  refine ⟨h.1, ?_⟩
  rcases h.2 with h2 | ⟨g, cap, cur, rfl, hb, hgb, r⟩
  · exact .inl h2
  · exact .inr ⟨g, cap, cur, rfl, hb, hm.data _ _ hgb rfl (hgO g rfl), r⟩

/-- What an append may take: a slice that reads as news, nil and empty too. -/
structure Src (w : World) (A : Option Addr) (m : Nat) (news : List Value) : Prop where
  len : news.length = m
  at_ : 0 < m → ∃ b o, A = some ⟨b, o, none⟩ ∧ ∀ (j : Nat) (u : Value), news[j]? = some u → w.cell? ⟨b, o + j, none⟩ = some u

theorem run_append_of_nil {P : Program} (w : World) (base : Nat) (t ty e : TypeId) (i : TypeInfo) (size : Nat) (ht : P.underlying t = some (.slice e)) (hi : P.info? e = some i)
    (v : Value) (n : Nat) (xs : List Value) (hown : w.ownsRow base e size v n xs) (A : Option Addr) (c : Nat) (hA : A = none) : (Builtin.append_ #[t, t] ty #[v, .slice A 0 c]).run P w = .ok v w := by
  subst hA
  rcases hown.2 with ⟨rfl, rfl⟩ | ⟨g, cap, cur, rfl, _, _, hnc, _⟩
  · simp [Builtin.append_, run_underlying ht, sizeOf, typeInfo, hi, Builtin.lenOf, Builtin.firstCells]
  · simp [Builtin.append_, run_underlying ht, sizeOf, typeInfo, hi, Builtin.lenOf, Builtin.firstCells, hnc, storeCells]

/-- append onto a row of the call's own from whatever source. -/
theorem wpList_append_src {P : Program} (w : World) {ops : Array Oper} {rest : List Oper} {o : Oper} {a : Act} {Q : Exit → Act → World → Prop}
    (hg : o.guard = none) (s x : Operand) (t : TypeId) (hop : o.op = Op.call { callee := Callee.builtin Builtin.append, args := #[s, x], argTypes := #[t, t] })
    (base : Nat) (e : TypeId) (i : TypeInfo) (z : Value) (bytes : Nat) (h1 : P.underlying t = some (.slice e)) (h2 : P.info? e = some i) (h3 : i.zero = some z) (h4 : i.size = 1) (h5 : i.bytes = bytes) (h6 : z.cells.size = 1)
    (v : Value) (k : Nat) (xs : List Value) (hs : a.eval s = v) (hown : w.ownsRow base e 1 v k xs) (A : Option Addr) (m c : Nat) (news : List Value) (hx : a.eval x = .slice A m c) (hr : Src w A m news)
    (h1c : ∀ u ∈ news, u.oneCell' = true) (b1 : k + m ≤ maxLen) (b2 : (k + m) * bytes ≤ 140737488355328) (b3 : base ≤ w.heap.size)
    (hK : ∀ v' w', w'.ownsRow base e 1 v' (k + m) (xs ++ news) → w.grownBy w' v.ownBlock → wpList P ops Q rest (a.put o.dst v') w') :
    wpList P ops Q (o :: rest) a w := by
  rcases A with _ | ad
  · have hm : m = 0 := by
      rcases Nat.eq_zero_or_pos m with h0 | h0
      · exact h0
      · obtain ⟨_, _, h, _⟩ := hr.at_ h0; cases h
    subst hm
    have hn : news = [] := List.eq_nil_of_length_eq_zero hr.len
    subst hn
    refine wpList_plain hg fun K hK' => ?_
    unfold Oper.wp
    simp [execOp, hop, resolve, invoke, builtin, hs, hx, run_append_of_nil (P := P) w base t o.type e i 1 h1 h2 v k xs hown none c rfl, Result.andThen]
    exact hK' _ _ (hK v w (by simpa using hown) (World.grownBy.refl w _))
  · refine wpList_append_at w hg s x t hop base e i z 1 bytes h1 h2 h3 h4 h5 h6 (by decide) v k xs hs hown ad m c news hx (by simpa using hr.len) ?_ h1c b1 b2 b3 (fun v' w' a1 a2 _ => hK v' w' a1 a2)
    intro j u hj
    have hm : 0 < m := by
      have := hr.len
      rcases Nat.eq_zero_or_pos m with h0 | h0
      · have : news = [] := List.eq_nil_of_length_eq_zero (by omega)
        subst this; simp at hj
      · exact h0
    obtain ⟨b, o', hA, hc⟩ := hr.at_ hm
    injection hA with hA
    subst hA
    have := hc j u hj
    unfold Addr.add
    split
    · rename_i h0; subst h0; simpa using this
    · exact this

theorem ownsRow_below {W W' : World} {e : TypeId} {size : Nat} {v : Value} {k base : Nat} {xs : List Value} (h : W.ownsRow base e size v k xs) (hb : Below W.heap.size W W') : W'.ownsRow base e size v k xs :=
  ownsRow_moves (B0 := 0) (O := fun _ => False) h ((Apart.below hb).moves (by omega)) (fun _ _ => id)

theorem Keeps.putData {B0 : Nat} {O : Nat → Prop} {A : World} {r : Nat} {o o' : Obj} (h : A.heap[r]? = some o) (hd : isData o = true) (hO : ¬ O r) (hB : B0 ≤ r) : Keeps B0 O A (A.putObj r o') :=
  ⟨by simp, fun k hk => World.putObj_heap_other (by omega), fun k hk => World.putObj_heap_other (fun e => hO (e ▸ hk)), fun k o2 hk hd2 => by
    by_cases e : k = r
    · subst e; rw [h] at hk; cases hk; rw [hd] at hd2; cases hd2
    · rw [World.putObj_heap_other e]; exact hk⟩
theorem below_putObj {B : Nat} {w A : World} {r : Nat} {o : Obj} (h : Below B w A) (hr : B ≤ r) : Below B w (A.putObj r o) :=
  h.trans ⟨rfl, rfl, rfl, by simp, fun k hk => World.putObj_heap_other (by omega)⟩
theorem Moves.dataObj {B0 : Nat} {O : Nat → Prop} {A C : World} (hm : Moves B0 O A C) {k : Nat} {es : Array MapEntry} {c : Nat} (h : A.heap[k]? = some (.map es c)) (hk : ¬ O k) : C.heap[k]? = some (.map es c) :=
  hm.data _ _ h rfl hk
end Go.Vir
