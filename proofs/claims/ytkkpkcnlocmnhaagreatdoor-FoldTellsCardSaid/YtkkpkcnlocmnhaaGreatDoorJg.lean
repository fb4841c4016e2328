/- Joined texts: Fd8, Hel2, Fd9, ErrF, FdP. -/
import Derived.Test.YtkkpkcnlocmnhaaGreatDoorJf
import Derived.Test.YtkkpkcnlocmnhaaGreatDoorJb
import Derived.Test.YtkkpkcnlocmnhaaGreatDoorJa
import Derived.Test.YtkkpkcnlocmnhaaGreatDoorJd
import Derived.Test.YtkkpkcnlocmnhaaGreatDoorJc
import Derived.Deep.Cut
import Derived.BigQuiet
import Derived.Deep.QuietTactic
import Derived.Deep.RegionHeld3
import Derived.Maps.AppendAt
import Derived.Deep.RegionLaw
namespace Go.Vir
open Go Go.RowKit Go.Proofs Go.Shelf
attribute [local go_sem] Oper.semAt_some

def evsN : List (List UInt8) → Nat → List (Nat × LineR)
  | [], _ => []
  | t :: ts, k => match lineN t with
    | .none => evsN ts (k + 1)
    | r => (k + 1, r) :: evsN ts (k + 1)
theorem evsN_cons (t : List UInt8) (ts : List (List UInt8)) (k : Nat) : evsN (t :: ts) k = match lineN t with
    | .none => evsN ts (k + 1)
    | r => (k + 1, r) :: evsN ts (k + 1) := by rw [evsN]

structure MovR (R : Nat) (A B : World) : Prop where
  os : B.os = A.os
  tape : B.tape = A.tape
  output : B.output = A.output
  size : A.heap.size ≤ B.heap.size
  block : ∀ k : Nat, k < A.heap.size → k ≠ R → B.heap[k]? = A.heap[k]?
  other : ∀ (k : Nat) (o : Obj), A.heap[k]? = some o → isData o = false → B.heap[k]? = some o
  line : ∀ (c l o e : Value) (t : TypeId), A.heap[R]? = some (.cells #[c, l, o, e] t (0, 0)) → ∃ l', B.heap[R]? = some (.cells #[c, l', o, e] t (0, 0))
theorem MovR.refl (R : Nat) (A : World) : MovR R A A := ⟨rfl, rfl, rfl, Nat.le_refl _, fun _ _ _ => rfl, fun _ _ h _ => h, fun _ l _ _ _ h => ⟨l, h⟩⟩
theorem MovR.trans {R : Nat} {A B C : World} (h : MovR R A B) (k : MovR R B C) : MovR R A C :=
  ⟨k.os.trans h.os, k.tape.trans h.tape, k.output.trans h.output, Nat.le_trans h.size k.size, fun i hi hr => (k.block i (Nat.lt_of_lt_of_le hi h.size) hr).trans (h.block i hi hr), fun i o hi hd => k.other i o (h.other i o hi hd) hd,
   fun c l o e t hA => let ⟨_, hB⟩ := h.line c l o e t hA; k.line c _ o e t hB⟩
theorem MovR.below {R : Nat} {A B : World} (hR : R < A.heap.size) (h : Below A.heap.size A B) : MovR R A B :=
  ⟨h.os, h.tape, h.output, h.size, fun k hk _ => h.block k hk, fun k _ hk _ => (h.block k (Array.getElem?_eq_some_iff.1 hk).1).trans hk, fun _ l _ _ _ hA => ⟨l, (h.block R hR).trans hA⟩⟩
theorem MovR.setLine {R : Nat} (A : World) (u : Value) : MovR R A (A.setCell ⟨R, 1, none⟩ u) :=
  ⟨rfl, rfl, rfl, by simp [World.setCell], fun k _ hk => Below.heap_setCell _ _ _ _ hk, fun k o hk hd => (KeepE.setCell (O := fun k => k = R) (B0 := 0) (F := 0) A (p := ⟨R, 1, none⟩) (.inl rfl) (Nat.zero_le _) u).other k o hk hd, fun _ _ _ _ _ hA => ⟨u, by have := setCell_blk hA 1 u; simpa using this⟩⟩
theorem split_at (c : UInt8) (x : List UInt8) (m : Int) (w : World) (hx : x.length ≤ 10000000) (hm : w.cell? ⟨4, 0, none⟩ = some (.int .i64 m)) :
    Calls Tryz.prog 124 #[.string ⟨x.toArray⟩, .string ⟨#[c]⟩] w fun e w' => e = .returned (.slice (some ⟨w.heap.size, 0, none⟩) (splitL c x).length (splitL c x).length) ∧
      w'.heap[w.heap.size]? = some (.cells (strVs (splitL c x)).toArray 9 (0, 0)) ∧ Below w.heap.size w w' := by
  have h := Tryz.strings_Split ⟨x.toArray⟩ ⟨#[c]⟩ m w (by show x.toArray.size < _; simp; omega) hm (Nat.le_refl 1)
  obtain ⟨a1, a2⟩ := splitK_L c _ x (Nat.le_refl _)
  have hd := Lib.splitB_data ⟨#[c]⟩ 0 (Lib.countB ⟨x.toArray⟩ ⟨#[c]⟩) ⟨x.toArray⟩
  have hd2 : (Lib.splitB ⟨#[c]⟩ 0 (Lib.countB ⟨x.toArray⟩ ⟨#[c]⟩) ⟨x.toArray⟩).map (·.data.toList) = splitL c x := hd.trans a1
  have hc : Lib.countB ⟨x.toArray⟩ ⟨#[c]⟩ + 1 = (splitL c x).length := a2
  rw [hc] at h
  refine h.mono ?_
  rintro e w' ⟨rfl, rfl⟩
  refine ⟨rfl, ?_, (Below.refl _ _).alloc (Nat.le_refl _) _⟩
  rw [World.alloc_heap_new]
  generalize Lib.splitB ⟨#[c]⟩ 0 (Lib.countB ⟨x.toArray⟩ ⟨#[c]⟩) ⟨x.toArray⟩ = L at *
  rw [← hd2]
  simp [strVs]

def EvN (E : List (Nat × LineR)) (R : Nat) (i : Nat) (xs : Array Value) (m : Nat) (W : World) : Prop :=
  ∃ (l : Nat) (r : LineR) (c o e : Value), E[i]? = some (l, r) ∧ W.heap[R]? = some (.cells #[c, .int .i64 (l : Int), o, e] 152 (0, 0)) ∧ match r with
    | .none => False
    | .bad why => xs = #[.pointer none, .iface 183 (.agg #[.int .i64 why])]
    | .rcd a b fs => ∃ rb A' n c, xs = #[.pointer (some ⟨rb, 0, none⟩), .nilIface] ∧ W.heap[rb]? = some (.cells #[.int .i64 0, .int .i64 (a : Int), .int .i64 (b : Int), .slice A' n c] 88 (0, 0)) ∧ Strs W rb A' n fs ∧ n ≤ c ∧ Fresh m A' n ∧ m ≤ rb
def RdN (s : List UInt8) (R : Nat) (W : World) : Prop := ∃ l o e : Value, W.heap[R]? = some (.cells #[.string ⟨s.toArray⟩, l, o, e] 152 (0, 0))

theorem lines_make (R : Nat) (w : World) :
    Calls Tryz.prog 120 #[.pointer (some ⟨R, 0, none⟩)] w fun e w' =>
      e = .returned (.func (.func 144) #[] #[.pointer (some ⟨w.heap.size, 0, none⟩)]) ∧ w.alloc (.cells #[.pointer (some ⟨R, 0, none⟩)] 148) = w' := by
  go_enter Tryz.func120, Tryz.ntmps120
  go_wp2
  go_ret
  exact ⟨rfl, rfl⟩

set_option maxRecDepth 100000 in
set_option maxHeartbeats 3200000 in
theorem lines_iter (R b B0 : Nat) (s : List UInt8) (W0 : World) (hG : ∃ m, W0.cell? ⟨4, 0, none⟩ = some (.int .i64 m)) (hgl : 4 < B0)
    (hR : B0 ≤ R) (hb : R < b) (hsz : b < W0.heap.size) (hl : s.length ≤ 100000) (c0 : W0.heap[b]? = some (.cells #[.pointer (some ⟨R, 0, none⟩)] 148 (0, 0))) :
    IterE Tryz.prog 144 #[.pointer (some ⟨b, 0, none⟩)] (evsN (splitL 10 s) 0).length (fun _ => RdN s R) (fun i xs A W => EvN (evsN (splitL 10 s) 0) R i xs A.heap.size W) (MovR R) (fun k => k = R) B0 W0 := by
  intro l J Jx W hW hJR hJM hY h0
  obtain ⟨mm, hmm⟩ := hG
  have hWs := hW.size
  have hmW : W.cell? ⟨4, 0, none⟩ = some (.int .i64 mm) := (cellOf hW (by omega)).trans hmm
  have b0 := (hW.block b hsz).trans c0
  have hsp := split_at 10 s mm W (by omega) hmW
  have hmem : ∀ t ∈ splitL 10 s, t.length ≤ 100000 := fun t ht => by have := (splitL_mem 10 s t ht).1; omega
  have hsl := splitL_length 10 s
  obtain ⟨l0, o0, e0, hr0⟩ := hJR _ _ _ (h0 _ (Nat.le_refl _))
  generalize splitL 10 s = ls at *
  have Hsp := Lib.hid hsp
  have Hmem := Lib.hid hmem
  have HJR := Lib.hid hJR
  have HJM := Lib.hid hJM
  have HY := Lib.hid hY
  have Hmm := Lib.hid hmW
  have H0 := Lib.hid h0
  have hbc : W.cell? ⟨b, 0, none⟩ = some (.pointer (some ⟨R, 0, none⟩)) := cell_blk b0 0
  have hrc : W.cell? ⟨R, 0, none⟩ = some (.string ⟨s.toArray⟩) := cell_blk hr0 0
  clear hsp hmem hJR hJM hY h0 hmm hmW
  refine callsIn_wide.2 ?_
  go_enter Tryz.func144, Tryz.ntmps144
  go_step3
  go_wp2
  go_step3
  go_wp2_with fail
  refine Hsp.out.mono ?_
  rintro e w4 ⟨rfl, hrow, hb4⟩
  have hs4 : W.heap.size < w4.heap.size := (Array.getElem?_eq_some_iff.1 hrow).1
  have hJ0 := HJM.out _ _ _ _ (H0.out w4.heap.size (by omega)) (MovR.below (R := R) (by omega) hb4)
  have b4 := (hb4.block b (by omega)).trans b0
  have hm4 : ∃ m, w4.cell? ⟨4, 0, none⟩ = some (.int .i64 m) := ⟨mm, (cellOf hb4 (by omega)).trans Hmm.out⟩
  go_wp2_with fail
  go_loopw [14] (fun v wr => ∃ (k i : Nat), k ≤ ls.length ∧ v = .int .i64 (k : Int) ∧ i ≤ (evsN ls 0).length ∧ (evsN ls 0).drop i = evsN (ls.drop k) k ∧ J w4.heap.size i wr ∧ w4.heap.size ≤ wr.heap.size ∧
    (∃ m, wr.cell? ⟨4, 0, none⟩ = some (.int .i64 m)) ∧ wr.heap[b]? = some (.cells #[.pointer (some ⟨R, 0, none⟩)] 148 (0, 0)) ∧ wr.heap[W.heap.size]? = some (.cells (strVs ls).toArray 9 (0, 0))) (fun v _ => ls.length - (RowKit.intOf v).toNat)
  case atStart => exact ⟨0, 0, by omega, rfl, by omega, by simp, hJ0, Nat.le_refl _, hm4, b4, hrow⟩
  case round =>
    obtain ⟨k, i, hk, rfl, hi, hev, hJ, hsz4, ⟨m5, hm5⟩, hbr, hrw⟩ := hrel
    obtain ⟨l1, o1, e1, hR1⟩ := HJR.out _ _ _ hJ
    have hbc : wr.cell? ⟨b, 0, none⟩ = some (.pointer (some ⟨R, 0, none⟩)) := cell_blk hbr 0
    rcases Nat.lt_or_ge k ls.length with hlt | hge
    · have hrk : wr.cell? ⟨W.heap.size, k, none⟩ = some (.string ⟨(ls[k]'hlt).toArray⟩) := by
        rw [cell_blk hrw]; simp [strVs, hlt]
      have hk1 : wr.cell? ⟨R, 1, none⟩ = some l1 := cell_blk hR1 1
      have hf1 : wr.frozen? ⟨R, 1, none⟩ = false := frozen_blk hR1 1
      have hmv := MovR.setLine (R := R) wr (.int .i64 ((k : Int) + 1))
      have hR2 := setCell_blk hR1 1 (.int .i64 ((k : Int) + 1))
      simp only [List.setIfInBounds_toArray, List.set_cons_succ, List.set_cons_zero] at hR2
      have hm6 : (wr.setCell ⟨R, 1, none⟩ (.int .i64 ((k : Int) + 1))).cell? ⟨4, 0, none⟩ = some (.int .i64 m5) := (World.cell?_of_block (a := ⟨4, 0, none⟩) (hmv.block 4 (by omega) (by omega))).trans hm5
      have hws : (wr.setCell ⟨R, 1, none⟩ (.int .i64 ((k : Int) + 1))).heap.size = wr.heap.size := by simp [World.setCell]
      have hrec := field_record (ls[k]'hlt) (wr.setCell ⟨R, 1, none⟩ (.int .i64 ((k : Int) + 1))) ⟨m5, hm6⟩ (by rw [hws]; omega) (Hmem.out _ (List.getElem_mem hlt))
      have hcons : evsN (ls.drop k) k = match lineN (ls[k]'hlt) with
        | .none => evsN (ls.drop (k + 1)) (k + 1)
        | r => (k + 1, r) :: evsN (ls.drop (k + 1)) (k + 1) := by rw [List.drop_eq_getElem_cons hlt, evsN_cons]
      generalize ls[k]'hlt = t at *
      have Hrec := Lib.hid hrec
      have Hcons := Lib.hid hcons
      have Hev := Lib.hid hev
      have Hmv := Lib.hid hmv
      clear hrec hcons hev hmv hm6
      go_wp2_with fail
      refine Hrec.out.mono ?_
      rintro e w5 ⟨hre, hb5⟩
      rw [hws] at hre
      have hmv5 := Hmv.out.trans (MovR.below (R := R) (by rw [hws]; have := (Array.getElem?_eq_some_iff.1 hR1).1; omega) hb5)
      have hlR : R < wr.heap.size := (Array.getElem?_eq_some_iff.1 hR1).1
      have hR5 := (hb5.block R (by rw [hws]; exact hlR)).trans hR2
      have hbr5 := (hmv5.block b (Array.getElem?_eq_some_iff.1 hbr).1 (by omega)).trans hbr
      have hrw5 := (hmv5.block _ (Array.getElem?_eq_some_iff.1 hrw).1 (by omega)).trans hrw
      have hm5b : ∃ m, w5.cell? ⟨4, 0, none⟩ = some (.int .i64 m) := ⟨m5, (World.cell?_of_block (a := ⟨4, 0, none⟩) (hmv5.block 4 (by omega) (by omega))).trans hm5⟩
      have hs5 := hmv5.size
      have hev := Hev.out
      rw [Hcons.out] at hev
      obtain ⟨L, hL⟩ : ∃ L, lineN t = L := ⟨_, rfl⟩
      rw [hL] at hre hev
      have hgo : L ≠ .none → ∀ xs, EvN (evsN ls 0) R i xs wr.heap.size w5 → (i < (evsN ls 0).length) ∧ YieldAt Fence.wide 0 Tryz.prog l xs w5 (fun e W' => (e = .returned (.bool true) ∧ J w4.heap.size (i + 1) W' ∧ KeepE (fun k => k = R) B0 w4.heap.size w5 W') ∨ (e = .returned (.bool false) ∧ Jx i W')) := by
        intro hne xs hx
        have hin : i < (evsN ls 0).length := by
          obtain ⟨l', r', c', o', e', he, _⟩ := hx
          exact (List.getElem?_eq_some_iff.1 he).1
        exact ⟨hin, HY.out _ i xs wr w5 hin (by omega) hsz4 hJ hmv5 hx⟩
      have Hgo := Lib.hid hgo
      clear hgo
      have hJ5 := HJM.out _ _ _ _ hJ hmv5
      clear Hrec Hmv hb5 hR1 hbr hrw hrk hk1 hf1 hm5 hbc hJ
      rcases L with _ | why | ⟨a, b', fs⟩
      · have Hev2 := Lib.hid hev
        have Hre := Lib.hid (show e = _ from hre)
        have he := Hre.out
        subst he
        clear hre hev hR5
        go_wp2_with fail
        go_roundw
        case rel => exact ⟨k + 1, i, by omega, by go_num, hi, Hev2.out, hJ5, by omega, hm5b, hbr5, hrw5⟩
        case measure => simp [RowKit.intOf]; omega
      · have he : e = .returned (.tuple #[.pointer none, .iface 183 (.agg #[.int .i64 why])]) := hre
        subst he
        have hev2 : (evsN ls 0).drop (i + 1) = evsN (ls.drop (k + 1)) (k + 1) := by
          have := congrArg (List.drop 1) hev
          rw [List.drop_drop] at this
          simpa using this
        have hei : (evsN ls 0)[i]? = some (k + 1, .bad why) := by
          have := congrArg (fun l => l[0]?) hev
          simpa using this
        have Hev2 := Lib.hid hev2
        obtain ⟨hin, hy⟩ := Hgo.out (by intro h; cases h) #[.pointer none, .iface 183 (.agg #[.int .i64 why])] ⟨k + 1, .bad why, .string ⟨s.toArray⟩, o1, e1, hei, by rw [hR5]; simp, rfl⟩
        obtain ⟨fn, tmps, assign, body, hy, hR⟩ := hy
        clear hei hev2
        go_upto_region 5 with fail
        refine (wpIn_wide (n := 0)).1 ?_
        gi_wp2_with fail
        refine ⟨rfl, hR.mono ?_⟩
        rintro e W' (⟨rfl, hJ', hk'⟩ | ⟨rfl, hJx'⟩)
        · have hbr6 := hk'.data b _ (by omega) (by omega) hbr5 rfl
          have hrw6 := hk'.data _ _ (by omega) (by omega) hrw5 rfl
          obtain ⟨m6, hm6⟩ := hm5b
          have hm7 : ∃ m, W'.cell? ⟨4, 0, none⟩ = some (.int .i64 m) := ⟨m6, hk'.cell (by omega) (by omega) hm6⟩
          have hs6 := hk'.size
          clear hk' hm6 hbr5 hrw5 hR5 hre hev hR hy Hgo
          gi_wp2
          go_wp2
          go_roundw
          case rel => exact ⟨k + 1, i + 1, by omega, by go_num, by omega, Hev2.out, hJ', by omega, hm7, hbr6, hrw6⟩
          case measure => simp [RowKit.intOf]; omega
        · clear hbr5 hrw5 hR5 hre hev hR hy Hgo
          gi_wp2
          go_wp2
          simp only [Exit.noGoto]
          go_end0
          exact ⟨⟨_, rfl⟩, .inr ⟨_, hin, hJx'⟩⟩
      · obtain ⟨rb, A', n', c', rfl, hrb, hms, hnc, hfr, hrl⟩ := hre
        have hev2 : (evsN ls 0).drop (i + 1) = evsN (ls.drop (k + 1)) (k + 1) := by
          have := congrArg (List.drop 1) hev
          rw [List.drop_drop] at this
          simpa using this
        have hei : (evsN ls 0)[i]? = some (k + 1, .rcd a b' fs) := by
          have := congrArg (fun l => l[0]?) hev
          simpa using this
        have Hev2 := Lib.hid hev2
        obtain ⟨hin, hy⟩ := Hgo.out (by intro h; cases h) #[.pointer (some ⟨rb, 0, none⟩), .nilIface] ⟨k + 1, .rcd a b' fs, .string ⟨s.toArray⟩, o1, e1, hei, by rw [hR5]; simp, rb, A', n', c', rfl, hrb, hms.more (by have := (Array.getElem?_eq_some_iff.1 hrb).1; omega), hnc, hfr, hrl⟩
        obtain ⟨fn, tmps, assign, body, hy, hR⟩ := hy
        clear hei hev2
        go_upto_region 5 with fail
        refine (wpIn_wide (n := 0)).1 ?_
        gi_wp2_with fail
        refine ⟨rfl, hR.mono ?_⟩
        rintro e W' (⟨rfl, hJ', hk'⟩ | ⟨rfl, hJx'⟩)
        · have hbr6 := hk'.data b _ (by omega) (by omega) hbr5 rfl
          have hrw6 := hk'.data _ _ (by omega) (by omega) hrw5 rfl
          obtain ⟨m6, hm6⟩ := hm5b
          have hm7 : ∃ m, W'.cell? ⟨4, 0, none⟩ = some (.int .i64 m) := ⟨m6, hk'.cell (by omega) (by omega) hm6⟩
          have hs6 := hk'.size
          clear hk' hm6 hbr5 hrw5 hR5 hev hR hy Hgo
          gi_wp2
          go_wp2
          go_roundw
          case rel => exact ⟨k + 1, i + 1, by omega, by go_num, by omega, Hev2.out, hJ', by omega, hm7, hbr6, hrw6⟩
          case measure => simp [RowKit.intOf]; omega
        · clear hbr5 hrw5 hR5 hev hR hy Hgo
          gi_wp2
          go_wp2
          simp only [Exit.noGoto]
          go_end0
          exact ⟨⟨_, rfl⟩, .inr ⟨_, hin, hJx'⟩⟩
    · have hkl : k = ls.length := by omega
      have hiN : i = (evsN ls 0).length := by
        have h1 := congrArg List.length hev
        rw [List.drop_eq_nil_of_le (by omega : ls.length ≤ k)] at h1
        simp [evsN] at h1
        omega
      subst hiN
      clear hev hR1 hbr hrw hm5
      go_wp2_with fail
      simp only [Exit.noGoto]
      go_end0
      exact ⟨⟨_, rfl⟩, .inl ⟨_, hJ⟩⟩
end Go.Vir


namespace Go.Vir
open Go Go.RowKit
section
variable {P : Program} {l n : Nat}
theorem wpIn_append_at {F : Fence} (w : World) {o : Oper} {a : Act} {K : Act → World → Prop} {Q : Exit → Act → World → Prop}
    (s x : Operand) (t : TypeId) (hop : o.op = Op.call { callee := Callee.builtin Builtin.append, args := #[s, x], argTypes := #[t, t] })
    (base : Nat) (e : TypeId) (i : TypeInfo) (z : Value) (size bytes : Nat) (h1 : P.underlying t = some (.slice e)) (h2 : P.info? e = some i) (h3 : i.zero = some z) (h4 : i.size = size) (h5 : i.bytes = bytes) (h6 : z.cells.size = size) (h7 : 0 < size)
    (v : Value) (k : Nat) (xs : List Value) (hs : a.eval s = v) (hown : w.ownsRow base e size v k xs) (ad : Addr) (m c : Nat) (news : List Value) (hx : a.eval x = .slice (some ad) m c) (hn : news.length = m * size)
    (hc : ∀ (j : Nat) (u : Value), news[j]? = some u → w.cell? (ad.add j) = some u) (h1c : ∀ u ∈ news, u.oneCell' = true) (b1 : k + m ≤ maxLen) (b2 : (k + m) * bytes ≤ 140737488355328) (b3 : base ≤ w.heap.size)
    (hK : ∀ v' w', w'.ownsRow base e size v' (k + m) (xs ++ news) → w.grownBy w' v.ownBlock → (v'.ownBlock = v.ownBlock ∨ v'.ownBlock = some w.heap.size) → K (a.put o.dst v') w') :
    o.wpIn F n P a w K Q := by
  obtain ⟨v', w', hrun, r1, r2, _, r3⟩ := run_append_own_at (P := P) w base t o.type e i z size bytes h1 h2 h3 h4 h5 h6 h7 v k xs hown ad m c news hn hc h1c b1 b2 b3
  unfold Oper.wpIn
  refine ⟨?_, ?_⟩
  · simp [Oper.about, hop, resolve, Target.leads, Sem.run_pure]
  · rw [Oper.semAt_plain F _ _ (by rw [hop]; intro c hc'; cases hc')]
    simp [execOp, hop, resolve, invoke, builtin, hs, hx, hrun, Result.andThen]
    exact hK v' w' r1 r2 r3

def Stage (P : Program) (l n : Nat) (S : World → Prop) (oy : Oper) (ol tl : List Oper) (Q : Exit → Act → World → Prop) (a2 : Act) (w2 : World) : Prop :=
  S w2 ∧ Region.wanted oy (yielded ol.toArray a2.tmps) = true ∧ oy.wpIn (Fence.wide.inRound l) n P a2 w2 (fun a3 w3 => S w3 ∧ wpListIn (Fence.wide.inRound l) n P ol.toArray Q tl a3 w3) noWay

theorem wpIn_held_tail2 {id : Nat} {Q : Exit → Act → World → Prop} {a : Act} {w : World} {ol : List Oper} {oz oy : Oper} (k : Nat) (S : World → Prop) (hm : P.follows .mixedOrders = true)
    (hd : noDefer ol.toArray = true) (hsel : Region.noSelect ol.toArray = true) (hz : ol[k]? = some oz) (hy : ol[k + 1]? = some oy) (hn : k + 2 < ol.length) (hs : Region.sinkB .any ol.toArray (k + 2) = true) (hc : Region.chainB .any ol.toArray (k + 2) = true)
    (hB : Region.lexHead .any ol.toArray (ol.toArray.size - k) k 0 (Array.replicate ol.toArray.size false) = true) (hS : S w.drew)
    (h : wpTakes P ol.toArray S (fun a' => Region.wanted oz (yielded ol.toArray a'.tmps) = true ∧ oz.wpIn (Fence.wide.inRound l) n P a' w.drew (Stage P l n S oy ol (ol.drop (k + 2)) Q) noWay) (ol.take k) a) :
    (Code.region id ol.toArray true).wpIn (Fence.wide.inRound l) n P Q a w := by
  have hn' : k + 2 < ol.toArray.size := by simpa using hn
  have htl : (ol.take k).length = k := by simp; omega
  have hdl : (ol.drop (k + 2)).length = ol.toArray.size - (k + 2) := by simp
  have inv0 : HeadInv .any ol.toArray (k + 2) (Array.replicate ol.toArray.size false) :=
    ⟨by simp, fun j oj _ hl => (by rw [getD_replicate_false] at hl; cases hl), fun t _ ht => getD_in (by simpa using ht) (getD_replicate_false _ _)⟩
  have H := wpLH_lex (P := P) (md := .any) (S := S) (l := l) (n := n) (k := k) (m := k + 2) (g := ol.toArray.size - k) (f := 2) (w := w.drew)
    (L := fun listed a w => Region.seqB .any ol.toArray (ol.toArray.size - (k + 2)) (k + 2) listed = true ∧ wpListIn (Fence.wide.inRound l) n P ol.toArray Q (ol.drop (k + 2)) a w)
    hd hsel hs hc hn' (Nat.le_add_right k 2) (fun listed a w hL => seqB_ready hL.1) hS (fun listed a hB2 hK => by
      rw [show ol.toArray.size - k = (ol.toArray.size - (k + 2)) + 1 + 1 by omega] at hB2
      simp only [Region.seqB, Bool.and_eq_true, decide_eq_true_eq] at hB2
      refine ⟨fun h0 => (by rw [h0] at hB2; cases hB2.1), fun i hi => ?_⟩
      rw [hB2.1] at hi
      obtain rfl : i = k := by simpa using hi
      refine ⟨by omega, ?_⟩
      have hoz : ol.toArray[i]? = some oz := by simpa using hz
      have hoy : ol.toArray[i + 1]? = some oy := by simpa using hy
      unfold wpOpIn
      simp only [hoz, hK.1, if_true]
      refine Oper.wpIn_mono (fun a2 w2 h2 => ⟨h2.1, fun h0 => (by rw [h0] at hB2; cases hB2.2.1), fun j hj => ?_⟩) hK.2
      rw [hB2.2.1] at hj
      obtain rfl : j = i + 1 := by simpa using hj
      refine ⟨by omega, ?_⟩
      unfold wpOpIn
      simp only [hoy, h2.2.1, if_true]
      exact Oper.wpIn_mono (fun a3 w3 h3 => ⟨h3.1, hB2.2.2, h3.2⟩) h2.2.2) (ol.take k) 0 _ a (fun j hj => by
        have hj' : j < k := by rw [htl] at hj; exact hj
        simp [hj']) (by rw [htl]; omega) inv0 (by rw [htl]; exact hB) h
  refine wpIn_region_any hm ?_
  have := wpAnyIn_of_LH (Q' := Q) (l := l) (n := n) (g := ol.toArray.size - (k + 2)) (fun listed a' w' hL => by
    have := wpAnyIn_of_seq (md := .any) (F := Fence.wide.inRound l) (n := n) (Q' := Q) (ol.drop (k + 2)) (k + 2) listed a' w' (fun j => by simp [List.getElem?_drop]) (by rw [hdl]; exact hL.1) hL.2
    rwa [hdl] at this) _ _ _ _ H
  rw [htl, show k + 2 + (ol.toArray.size - (k + 2)) = ol.toArray.size by omega] at this
  exact this
end
end Go.Vir


namespace Go.Vir
open Go Go.RowKit Go.Proofs Go.Shelf
attribute [local go_sem] Oper.semAt_some

def recsE : List (Nat × LineR) → List RecV → List RecV × Int × Int
  | [], acc => (acc, 0, 0)
  | (_, .none) :: es, acc => recsE es acc
  | (l, .bad w) :: _, _ => ([], (l : Int), w)
  | (l, .rcd a b fs) :: es, acc => if acc.length = 300 then ([], (l : Int), 24) else recsE es (acc ++ [{ line := (l : Int), f := (a : Int), t := (b : Int), fs := fs }])
theorem recsE_bad (l : Nat) (why : Int) (es : List (Nat × LineR)) (acc : List RecV) : recsE ((l, .bad why) :: es) acc = ([], (l : Int), why) := by rw [recsE]
theorem recsE_rcd (l a b : Nat) (fs : List (List UInt8)) (es : List (Nat × LineR)) (acc : List RecV) : recsE ((l, .rcd a b fs) :: es) acc = if acc.length = 300 then ([], (l : Int), 24) else recsE es (acc ++ [{ line := (l : Int), f := (a : Int), t := (b : Int), fs := fs }]) := by rw [recsE]
theorem recsN_evs : ∀ (ls : List (List UInt8)) (k : Nat) (acc : List RecV), recsN ls k acc = recsE (evsN ls k) acc
  | [], _, _ => by simp [recsN, evsN, recsE]
  | t :: ts, k, acc => by
    rw [recsN_cons, evsN_cons]
    cases lineN t with
    | none => exact recsN_evs ts (k + 1) acc
    | bad w => simp only [recsE_bad]; simp
    | rcd a b fs =>
      simp only [recsE_rcd]
      split
      · simp
      · rw [recsN_evs ts (k + 1)]; simp

theorem MovR.moves {R : Nat} {A B : World} (h : MovR R A B) : Moves 0 (fun k => k = R) A B :=
  ⟨h.os, h.tape, h.output, h.size, fun k hk _ => absurd hk (by omega), fun k o hk _ ho => (h.block k (Array.getElem?_eq_some_iff.1 hk).1 ho).trans hk⟩
theorem MovR.apart {R : Nat} {A B : World} (h : MovR R A B) : Apart (fun k => k = R) A B := ⟨h.os, h.tape, h.output, h.size, fun k hk ho => h.block k hk ho⟩

structure RdSt (w : World) (R : Nat) (s : List UInt8) (E : List (Nat × LineR)) (F i : Nat) (W : World) (l v : Value) (xs : List Value) (acc : List RecV) : Prop where
  ap : Apart (fun k => k = R) w W
  hF : w.heap.size < F
  rd : W.heap[R]? = some (.cells #[.string ⟨s.toArray⟩, l, v, .nilIface] 152 (0, 0))
  box : W.heap[w.heap.size]? = some (.cells #[.pointer (some ⟨R, 0, none⟩)] 148 (0, 0))
  row : W.ownsRow F 88 4 v acc.length xs
  rcs : RCs W W.heap.size F v.ownBlock acc xs
  len : acc.length ≤ 300
  eq : recsE E [] = recsE (E.drop i) acc

theorem RdSt.mov {w : World} {R : Nat} {s : List UInt8} {E : List (Nat × LineR)} {F i : Nat} {A B : World} {l v : Value} {xs : List Value} {acc : List RecV} (hR : R < w.heap.size) (h : RdSt w R s E F i A l v xs acc) (hm : MovR R A B) :
    ∃ l', RdSt w R s E F i B l' v xs acc := by
  have hF := h.hF
  obtain ⟨l', hl⟩ := hm.line _ _ _ _ _ h.rd
  have hbx := (hm.block _ (Array.getElem?_eq_some_iff.1 h.box).1 (by omega)).trans h.box
  exact ⟨l', h.ap.trans hm.apart, h.hF, hl, hbx, ownsRow_moves h.row hm.moves (fun g hg e => by have := (row_data h.row g hg).1; have := h.hF; omega),
    h.rcs.keep (fun k h1 h2 _ => hm.block k h2 (by have := h.hF; omega)) hm.size, h.len, h.eq⟩
theorem RdSt.put {w : World} {R : Nat} {s : List UInt8} {E : List (Nat × LineR)} {F i q : Nat} {A : World} {l v : Value} {xs : List Value} {acc : List RecV} {o o' : Obj} (hR : R < w.heap.size) (h : RdSt w R s E F i A l v xs acc)
    (hl : w.heap.size ≤ q) (hq : q < F) (ho : A.heap[q]? = some o) (hd : isData o = false) : RdSt w R s E F i (A.putObj q o') l v xs acc := by
  have hne : q ≠ w.heap.size := by
    rintro rfl
    rw [h.box] at ho; cases ho; simp [isData] at hd
  refine ⟨⟨h.ap.os, h.ap.tape, h.ap.output, by have := h.ap.size; simp; omega, fun k hk hO => (World.putObj_heap_other (by omega)).trans (h.ap.block k hk hO)⟩, h.hF, (World.putObj_heap_other (by omega)).trans h.rd,
    (World.putObj_heap_other (Ne.symm hne)).trans h.box, ownsRow_moves h.row (Moves.putObj (B0 := 0) (O := fun _ => False) (Nat.zero_le _) ho hd) (fun _ _ => id), ?_, h.len, h.eq⟩
  exact h.rcs.keep (fun k h1 _ _ => World.putObj_heap_other (by omega)) (by simp)

theorem EvN.put {E : List (Nat × LineR)} {R i m q : Nat} {xs : Array Value} {A : World} {o' : Obj} (h : EvN E R i xs m A) (hR : R < q) (hq : q < m) : EvN E R i xs m (A.putObj q o') := by
  obtain ⟨l, r, c, o1, e, h1, h2, h3⟩ := h
  refine ⟨l, r, c, o1, e, h1, (World.putObj_heap_other (by omega)).trans h2, ?_⟩
  rcases r with _ | why | ⟨a, b, fs⟩
  · exact h3
  · exact h3
  · obtain ⟨rb, A', n, c, h4, h5, h6, h7, h8, h9⟩ := h3
    refine ⟨rb, A', n, c, h4, (World.putObj_heap_other (by omega)).trans h5, ⟨h6.len, fun hn => ?_⟩, h7, h8, h9⟩
    obtain ⟨b', o', e', hb, hc⟩ := h6.at_ hn
    obtain ⟨b2, o2, e2, hF⟩ := h8 hn
    rw [e'] at e2
    obtain ⟨rfl, rfl⟩ : b' = b2 ∧ o' = o2 := by simpa using e2
    exact ⟨b', o', e', hb, fun j hj => (World.cell?_of_block (a := ⟨b', o' + j, none⟩) (World.putObj_heap_other (show b' ≠ q by omega))).trans (hc j hj)⟩

theorem cell_put {W : World} {D : Nat} {o o' : Obj} {a : Addr} {v : Value} (h : W.heap[D]? = some o) (hd : isData o = false) (hc : W.cell? a = some v) : (W.putObj D o').cell? a = some v := by
  by_cases e : a.block = D
  · subst e
    cases o with
    | cells cs t m => cases hd
    | _ => simp [World.cell?, h] at hc
  · exact (World.cell?_of_block (a := a) (World.putObj_heap_other e)).trans hc
theorem Strs.put {W : World} {B n D : Nat} {o o' : Obj} {A : Option Addr} {ss : List (List UInt8)} (hs : Strs W B A n ss) (h : W.heap[D]? = some o) (hd : isData o = false) : Strs (W.putObj D o') B A n ss :=
  ⟨hs.len, fun hn => let ⟨b, o, e, hlt, hc⟩ := hs.at_ hn; ⟨b, o, e, hlt, fun j hj => cell_put h hd (hc j hj)⟩⟩
theorem Recs.put {W : World} {B n D : Nat} {o o' : Obj} {A : Option Addr} {rs : List RecV} (hs : Recs W B A n rs) (h : W.heap[D]? = some o) (hd : isData o = false) : Recs (W.putObj D o') B A n rs :=
  ⟨hs.len, fun hn => let ⟨b, o, e, hlt, hc⟩ := hs.at_ hn; ⟨b, o, e, hlt, fun j hj => let ⟨A', n', c', c0, c1, c2, c3, hm, hn'⟩ := hc j hj; ⟨A', n', c', cell_put h hd c0, cell_put h hd c1, cell_put h hd c2, cell_put h hd c3, hm.put h hd, hn'⟩⟩⟩

def ReadE (w : World) (R : Nat) (s : List UInt8) (r : List RecV × Int × Int) (W : World) : Prop := Apart (fun k => k = R) w W ∧
  ((∃ (acc : List RecV) (l : Value) (A : Option Addr) (n c : Nat), r = (acc, 0, 0) ∧ W.heap[R]? = some (.cells #[.string ⟨s.toArray⟩, l, .slice A n c, .nilIface] 152 (0, 0)) ∧ n ≤ c ∧ Recs W W.heap.size A n acc ∧ Fresh w.heap.size A n ∧ acc.length ≤ 300) ∨
   (∃ (l : Nat) (why : Int) (o : Value), r = ([], (l : Int), why) ∧ W.heap[R]? = some (.cells #[.string ⟨s.toArray⟩, .int .i64 (l : Int), o, .iface 183 (.agg #[.int .i64 why])] 152 (0, 0))))

def RdEnd (w : World) (R : Nat) (s : List UInt8) (E : List (Nat × LineR)) (W : World) : Prop := ∃ (l : Nat) (why : Int) (o : Value), Apart (fun k => k = R) w W ∧ recsE E [] = ([], (l : Int), why) ∧ W.heap[R]? = some (.cells #[.string ⟨s.toArray⟩, .int .i64 (l : Int), o, .iface 183 (.agg #[.int .i64 why])] 152 (0, 0))

set_option maxRecDepth 100000 in
set_option maxHeartbeats 4000000 in
theorem field_read (R : Nat) (s : List UInt8) (l0 : Value) (w : World) (hG : ∃ m, w.cell? ⟨4, 0, none⟩ = some (.int .i64 m)) (hgl : 4 < R)
    (hR : w.heap[R]? = some (.cells #[.string ⟨s.toArray⟩, l0, .slice none 0 0, .nilIface] 152 (0, 0))) (hl : s.length ≤ 100000) :
    Calls Tryz.prog 101 #[.pointer (some ⟨R, 0, none⟩)] w fun e w' => (∃ v, e = .returned v) ∧ ReadE w R s (fileN s) w' := by
  have hRl : R < w.heap.size := (Array.getElem?_eq_some_iff.1 hR).1
  obtain ⟨mm, hmm⟩ := hG
  have hfe : fileN s = recsE (evsN (splitL 10 s) 0) [] := recsN_evs _ _ _
  rw [hfe]
  have hw2 : Below w.heap.size w ((w.alloc (.cells #[.pointer (some ⟨R, 0, none⟩)] 148)).alloc (.cells #[.pointer (some ⟨R, 0, none⟩)] 148)) := by go_grown
  have hit := lines_iter R (w.heap.size + 1) R s ((w.alloc (.cells #[.pointer (some ⟨R, 0, none⟩)] 148)).alloc (.cells #[.pointer (some ⟨R, 0, none⟩)] 148))
    ⟨mm, (cellOf hw2 (by omega)).trans hmm⟩ hgl (Nat.le_refl _) (by omega) (by simp) hl (heap_new (by simp))
  have hR2 := (hw2.block R hRl).trans hR
  have hbx : ((w.alloc (.cells #[.pointer (some ⟨R, 0, none⟩)] 148)).alloc (.cells #[.pointer (some ⟨R, 0, none⟩)] 148)).heap[w.heap.size]? = some (.cells #[.pointer (some ⟨R, 0, none⟩)] 148 (0, 0)) :=
    (heap_old (by simp)).trans (heap_new rfl)
  generalize hE : evsN (splitL 10 s) 0 = E at hit
  have Hit := Lib.hid hit
  clear hit hfe hmm
  refine (callsIn_wide (n := 0)).1 ?_
  refine callsIn_of_wp_marks Tryz.func101 rfl trivial ?_ rfl
  simp only [Tryz.ntmps101, List.size_toArray, List.length_cons, List.length_nil, Nat.reduceAdd, Nat.reduceSub, Array.replicate_succ, Array.replicate_zero, List.push_toArray, List.append_toArray, List.nil_append, List.cons_append]
  refine wpIn_wide.2 ?_
  go_wp2_with (go_at_call 120; refine (lines_make R _).mono ?_; rintro e W1 ⟨rfl, rfl⟩)
  generalize hW2 : (w.alloc (.cells #[.pointer (some ⟨R, 0, none⟩)] 148)).alloc (.cells #[.pointer (some ⟨R, 0, none⟩)] 148) = w2 at *
  have hsz : w2.heap.size = w.heap.size + 2 := by rw [← hW2]; simp
  clear hW2
  refine (wpIn_wide (n := 0)).1 ?_
  refine range_lawE (B0 := R) (O := fun k => k = R) (M := MovR R) (w := w2) (W0 := w2) rfl (enters_of Tryz.func144 (by kernel_rfl) rfl) Hit.out (Below.refl _ _) (by omega)
    ?hM (fun A B h => h.size) ?hps
    (fun F i W => ∃ l v xs acc, RdSt w R s E F i W l v xs acc)
    (fun i c W => c = .ret ∧ RdEnd w R s E W)
    (fun F i a' W => ∃ (m : Nat) (x e l v : Value) (xs : List Value) (acc : List RecV), a' = { tmps := #[.pointer (some ⟨R, 0, none⟩), .pointer (some ⟨w.heap.size, 0, none⟩), x, e, .pointer (some ⟨R, 0, none⟩), .func (.func 144) #[] #[.pointer (some ⟨w.heap.size + 1, 0, none⟩)], x, e, undef, undef, undef, undef, undef, undef, undef, undef, undef, undef, undef, undef, undef, undef, undef, undef, undef, undef, undef, undef, undef, undef, undef, undef, undef, undef, undef, undef, undef, undef, undef, undef, undef, undef, undef, undef, undef, undef], defers := [] } ∧
      RdSt w R s E F i W l v xs acc ∧ (∀ g, v.ownBlock = some g → g < m) ∧ F ≤ m ∧ RCs W m F v.ownBlock acc xs ∧ EvN E R i #[x, e] m W)
    ?hIR ?hIM ?hIP ?hIbP ?hIxP ?h0 ?hassign ?hbody ?hdone ?hstop
  case hM => exact fun A B h => h.other
  case hps =>
    rintro i xs A W ⟨l, r, c, o, e, h1, h2, h3⟩
    rcases r with _ | why | ⟨a, b, fs⟩
    · exact h3.elim
    · rw [h3]; rfl
    · obtain ⟨rb, A', n, c, h4, _⟩ := h3
      rw [h4]; rfl
  case hIR =>
    rintro F i A ⟨l, v, xs, acc, h⟩
    exact ⟨_, _, _, h.rd⟩
  case hIM =>
    rintro F i A B ⟨l, v, xs, acc, h⟩ hm
    obtain ⟨l', h'⟩ := h.mov hRl hm
    exact ⟨l', _, _, _, h'⟩
  case hIP =>
    rintro F i A q o o' hq hqF ho hd ⟨l, v, xs, acc, h⟩
    exact ⟨_, _, _, _, h.put hRl (by omega) hqF ho hd⟩
  case hIbP =>
    rintro F i a A q o o' hq hqF ho hd ⟨m, x, e, l, v, xs, acc, rfl, h, h1, h2, h4, h3⟩
    exact ⟨m, x, e, l, v, xs, acc, rfl, h.put hRl (by omega) hqF ho hd, h1, h2, h4.keep (fun k hk _ _ => World.putObj_heap_other (by omega)) (Nat.le_refl _), h3.put (by omega) (by omega)⟩
  case hIxP =>
    rintro i c A q o o' hq ho hd ⟨rfl, l, why, o1, h1, h2, h3⟩
    exact ⟨rfl, l, why, o1, ⟨h1.os, h1.tape, h1.output, by have := h1.size; simp; omega, fun k hk hO => (World.putObj_heap_other (by omega)).trans (h1.block k hk hO)⟩, h2, (World.putObj_heap_other (by omega)).trans h3⟩
  case h0 =>
    rintro F W hF hb
    have hb2 : Below w.heap.size w W := hw2.trans (hb.mono hw2.size)
    exact ⟨_, _, [], [], Apart.below hb2, by omega, (hb.block R (by omega)).trans hR2, (hb.block _ (by omega)).trans hbx, World.ownsRow_nil _ _ _ _, rfl, by simp, by simp⟩
  case hassign =>
    rintro l F i xs A W K hi hF hFA ⟨ln, v, ys, acc, hst⟩ hm hev hsW hK
    have hg : ∀ g, v.ownBlock = some g → g < A.heap.size := fun g hg => by
      obtain ⟨_, o, ho, _⟩ := row_data hst.row g hg
      exact (Array.getElem?_eq_some_iff.1 ho).1
    obtain ⟨l', hst'⟩ := hst.mov hRl hm
    have hrc : RCs W A.heap.size F v.ownBlock acc ys := hst.rcs.keep (fun k h1 h2 _ => hm.block k h2 (by have := hst.hF; omega)) (Nat.le_refl _)
    obtain ⟨x, e, rfl⟩ : ∃ x e, xs = #[x, e] := by
      obtain ⟨l, r, c, o, e, h1, h2, h3⟩ := hev
      rcases r with _ | why | ⟨a, b, fs⟩
      · exact h3.elim
      · exact ⟨_, _, h3⟩
      · obtain ⟨rb, A', n, c, h4, _⟩ := h3
        exact ⟨_, _, h4⟩
    have HK := Lib.hid hK
    have Hst := Lib.hid hst'
    have Hev := Lib.hid hev
    have Hrc := Lib.hid hrc
    clear hK hst hst' hev hrc
    gi_wp2
    exact HK.out _ _ (Below.refl _ _) ⟨A.heap.size, x, e, l', v, ys, acc, rfl, Hst.out, hg, hFA, Hrc.out, Hev.out⟩
  case hbody =>
    rintro l F i a' W hi hF hFW ⟨m, x, e, ln, v, xs, acc, rfl, hst, hgm, hFm, hrcm, hev⟩ hsW
    obtain ⟨L, r, q1, q2, q3, hEi, hRW, hev⟩ := hev
    have hrd := hst.rd
    rw [hRW] at hrd
    obtain ⟨rfl, rfl, rfl, rfl⟩ : q1 = .string ⟨s.toArray⟩ ∧ ln = .int .i64 (L : Int) ∧ q2 = v ∧ q3 = .nilIface := by simp at hrd; simp [hrd]
    have hbxc : W.cell? ⟨w.heap.size, 0, none⟩ = some (.pointer (some ⟨R, 0, none⟩)) := cell_blk hst.box 0
    have k1 : W.cell? ⟨R, 1, none⟩ = some (.int .i64 (L : Int)) := cell_blk hRW 1
    have k2 : W.cell? ⟨R, 2, none⟩ = some q2 := cell_blk hRW 2
    have k3 : W.cell? ⟨R, 3, none⟩ = some .nilIface := cell_blk hRW 3
    have f3 : W.frozen? ⟨R, 3, none⟩ = false := frozen_blk hRW 3
    have hEq := hst.eq
    have hdr : E.drop i = (L, r) :: E.drop (i + 1) := by
      rw [List.drop_eq_getElem_cons hi]
      obtain ⟨_, h⟩ := List.getElem?_eq_some_iff.1 hEi
      rw [h]
    rw [hdr] at hEq
    rcases r with _ | why | ⟨a, b, fs⟩
    · exact hev.elim
    · obtain ⟨rfl, rfl⟩ : x = .pointer none ∧ e = .iface 183 (.agg #[.int .i64 why]) := by simpa using hev
      have hq : recsE E [] = ([], (L : Int), why) := by rw [hEq, recsE_bad]
      have Hq := Lib.hid hq
      have Hst := Lib.hid hst
      clear hq hst hEq hdr hEi hev hrd hgm hrcm
      gi_wp2
      have hX := setCell_blk hRW 3 (.iface 183 (.agg #[.int .i64 why]))
      refine ⟨KeepE.setCell (O := fun _ => True) (B0 := 0) (F := 0) _ (p := ⟨R, 3, none⟩) (.inl trivial) (Nat.zero_le _) _, rfl, L, why, q2, Hst.out.ap.trans (Apart.setCell (O := fun k => k = R) _ (p := ⟨R, 3, none⟩) rfl _), Hq.out, ?_⟩
      simpa using hX
    · obtain ⟨rb, A', n, c, hxe, hrb, hms, hnc, hfr, hrl⟩ := hev
      obtain ⟨rfl, rfl⟩ : x = .pointer (some ⟨rb, 0, none⟩) ∧ e = .nilIface := by simpa using hxe
      obtain ⟨Ao, no, co, rfl, hno, hnoc, _⟩ := recs_own hst.row hst.rcs (Nat.le_refl _)
      subst hno
      have hF := hst.hF
      have hal := hst.len
      rw [recsE_rcd] at hEq
      by_cases hmany : acc.length = 300
      · have hlen0 : ((acc.length : Int) == 300) = true := by rw [beq_iff_eq]; omega
        have hq : recsE E [] = ([], (L : Int), 24) := by rw [hEq, if_pos hmany]
        have Hq := Lib.hid hq
        have Hst := Lib.hid hst
        clear hq hst hEq hdr hEi hrd hgm hrcm hms hfr hmany hal
        gi_wp2
        have hX := setCell_blk hRW 3 (.iface 183 (.agg #[.int .i64 24]))
        refine ⟨KeepE.setCell (O := fun _ => True) (B0 := 0) (F := 0) _ (p := ⟨R, 3, none⟩) (.inl trivial) (Nat.zero_le _) _, rfl, L, 24, .slice Ao acc.length co, Hst.out.ap.trans (Apart.setCell (O := fun k => k = R) _ (p := ⟨R, 3, none⟩) rfl _), Hq.out, ?_⟩
        simpa using hX
      · have hlen0 : ((acc.length : Int) == 300) = false := by rw [beq_eq_false_iff_ne]; omega
        rw [if_neg hmany] at hEq
        obtain ⟨i0, hi0, hz0, hz1, hz2⟩ := info_parts rec_info
        have hrbl : rb < W.heap.size := (Array.getElem?_eq_some_iff.1 hrb).1
        have hb0 : W.cell? ⟨rb, 0, none⟩ = some (.int .i64 0) := cell_blk hrb 0
        have hf0 : W.frozen? ⟨rb, 0, none⟩ = false := frozen_blk hrb 0
        have hrb1 := setCell_blk hrb 0 (.int .i64 (L : Int))
        simp only [List.setIfInBounds_toArray, List.set_cons_zero] at hrb1
        have hoth : ∀ k, k ≠ rb → (W.setCell ⟨rb, 0, none⟩ (.int .i64 (L : Int))).heap[k]? = W.heap[k]? := fun k hk => Below.heap_setCell _ _ _ _ hk
        have hRW1 := (hoth R (by omega)).trans hRW
        have hbx1 := (hoth w.heap.size (by omega)).trans hst.box
        have hs1 : (W.setCell ⟨rb, 0, none⟩ (.int .i64 (L : Int))).heap.size = W.heap.size := by simp [World.setCell]
        have hk1 : KeepE (fun k => k = R) R F W (W.setCell ⟨rb, 0, none⟩ (.int .i64 (L : Int))) := KeepE.setCell (p := ⟨rb, 0, none⟩) _ (.inr (Nat.le_trans hFm hrl)) (show R ≤ rb by omega) _
        have hrow1 : (W.setCell ⟨rb, 0, none⟩ (.int .i64 (L : Int))).ownsRow F 88 4 (.slice Ao acc.length co) acc.length xs :=
          hst.row.kept (grownBy_setCell2 W rb 0 _) (.inr fun e => by have := hgm rb e; omega)
        have how1 : (W.setCell ⟨rb, 0, none⟩ (.int .i64 (L : Int))).os = W.os ∧ (W.setCell ⟨rb, 0, none⟩ (.int .i64 (L : Int))).tape = W.tape ∧ (W.setCell ⟨rb, 0, none⟩ (.int .i64 (L : Int))).output = W.output := ⟨rfl, rfl, rfl⟩
        have HEq := Lib.hid hEq
        have Hst := Lib.hid hst
        have Hgm := Lib.hid hgm
        have Hrcm := Lib.hid hrcm
        have Hms := Lib.hid hms
        have Hfr := Lib.hid hfr
        have Hoth := Lib.hid hoth
        have Hk1 := Lib.hid hk1
        have Hrow1 := Lib.hid hrow1
        have How1 := Lib.hid how1
        have HRW1 := Lib.hid hRW1
        have Hbx1 := Lib.hid hbx1
        have Hrb1 := Lib.hid hrb1
        clear hEq hst hdr hEi hrd hgm hrcm hms hfr hoth hk1 hrow1 how1 hRW1 hbx1 hrb1
        gi_wp2
        generalize hW1 : W.setCell ⟨rb, 0, none⟩ (.int .i64 (L : Int)) = W1 at *
        clear hW1
        have e1 : W1.cell? ⟨w.heap.size, 0, none⟩ = some (.pointer (some ⟨R, 0, none⟩)) := cell_blk Hbx1.out 0
        have e2 : W1.cell? ⟨R, 2, none⟩ = some (.slice Ao acc.length co) := cell_blk HRW1.out 2
        have e3 : W1.cell? ⟨rb, 0, none⟩ = some (.int .i64 (L : Int)) := cell_blk Hrb1.out 0
        have e4 : W1.cell? ⟨rb, 0 + 1, none⟩ = some (.int .i64 (a : Int)) := cell_blk Hrb1.out 1
        have e5 : W1.cell? ⟨rb, 0 + 2, none⟩ = some (.int .i64 (b : Int)) := cell_blk Hrb1.out 2
        have e6 : W1.cell? ⟨rb, 0 + 3, none⟩ = some (.slice A' n c) := cell_blk Hrb1.out 3
        refine wpIn_held_tail2 8 (fun V => V.cell? ⟨w.heap.size, 0, none⟩ = some (.pointer (some ⟨R, 0, none⟩)) ∧ V.cell? ⟨R, 2, none⟩ = some (.slice Ao acc.length co) ∧ V.cell? ⟨rb, 0, none⟩ = some (.int .i64 (L : Int)) ∧ V.cell? ⟨rb, 0 + 1, none⟩ = some (.int .i64 (a : Int)) ∧ V.cell? ⟨rb, 0 + 2, none⟩ = some (.int .i64 (b : Int)) ∧ V.cell? ⟨rb, 0 + 3, none⟩ = some (.slice A' n c))
          (by kernel_rfl) (by kernel_rfl) (by kernel_rfl) rfl rfl (by decide) (by kernel_rfl) (by kernel_rfl) (by kernel_rfl) ⟨e1, e2, e3, e4, e5, e6⟩ ?_
        simp only [List.take_succ_cons, List.take_zero]
        refine ⟨.pointer (some ⟨R, 0, none⟩), .inl ⟨rfl, fun V hV => by obtain ⟨c0, c1, c2, c3, c4, c5⟩ := hV; go_simp⟩, ?_⟩
        refine ⟨.pointer (some ⟨R, 0, none⟩), .inl ⟨rfl, fun V hV => by obtain ⟨c0, c1, c2, c3, c4, c5⟩ := hV; go_simp⟩, ?_⟩
        refine ⟨.pointer (some ⟨R, 0, none⟩), .inl ⟨rfl, fun V hV => by obtain ⟨c0, c1, c2, c3, c4, c5⟩ := hV; go_simp⟩, ?_⟩
        refine ⟨.pointer (some ⟨R, 2, none⟩), .inl ⟨rfl, fun V hV => by obtain ⟨c0, c1, c2, c3, c4, c5⟩ := hV; go_simp⟩, ?_⟩
        refine ⟨.slice Ao acc.length co, .inl ⟨rfl, fun V hV => by obtain ⟨c0, c1, c2, c3, c4, c5⟩ := hV; go_simp⟩, ?_⟩
        refine ⟨.pointer (some ⟨rb, 0, none⟩), .inl ⟨rfl, fun V hV => by obtain ⟨c0, c1, c2, c3, c4, c5⟩ := hV; go_simp⟩, ?_⟩
        refine ⟨.pointer (some ⟨rb, 0, none⟩), .inl ⟨rfl, fun V hV => by obtain ⟨c0, c1, c2, c3, c4, c5⟩ := hV; go_simp⟩, ?_⟩
        refine ⟨.agg #[.int .i64 (L : Int), .int .i64 (a : Int), .int .i64 (b : Int), .slice A' n c], .inl ⟨rfl, fun V hV => by obtain ⟨c0, c1, c2, c3, c4, c5⟩ := hV; go_simp⟩, ?_⟩
        refine ⟨rfl, ?_⟩
        go_simp
        unfold Stage
        have hrs : rb < W1.heap.size := (Array.getElem?_eq_some_iff.1 Hrb1.out).1
        have hRs : R < W1.heap.size := (Array.getElem?_eq_some_iff.1 HRW1.out).1
        have hws : w.heap.size < W1.heap.size := (Array.getElem?_eq_some_iff.1 Hbx1.out).1
        refine ⟨⟨(World.cell?_alloc_lt _ _ _ hws).trans e1, (World.cell?_alloc_lt _ _ _ hRs).trans e2, (World.cell?_alloc_lt _ _ _ hrs).trans e3, (World.cell?_alloc_lt _ _ _ hrs).trans e4, (World.cell?_alloc_lt _ _ _ hrs).trans e5, (World.cell?_alloc_lt _ _ _ hrs).trans e6⟩, rfl, ?_⟩
        have hlowg : ∀ g, (Value.slice Ao acc.length co).ownBlock = some g → g < m ∧ F ≤ g := fun g hg => ⟨Hgm.out g hg, (row_data Hst.out.row g hg).1⟩
        have hFs : F ≤ W1.heap.size := by omega
        have hms1 : m ≤ W1.heap.size := by omega
        have hrowA : (W1.alloc (.cells #[.int .i64 (L : Int), .int .i64 (a : Int), .int .i64 (b : Int), .slice A' n c] 88)).drew.ownsRow F 88 4 (.slice Ao acc.length co) acc.length xs := (Hrow1.out.alloc _)
        have hcA : ∀ (j : Nat) (q : Value), [Value.int .i64 (L : Int), .int .i64 (a : Int), .int .i64 (b : Int), .slice A' n c][j]? = some q → (W1.alloc (.cells #[.int .i64 (L : Int), .int .i64 (a : Int), .int .i64 (b : Int), .slice A' n c] 88)).drew.cell? ((⟨W.heap.size, 0, none⟩ : Addr).add j) = some q := by
          rw [← hs1]; exact cell_four_new W1 _ _ _ _ _
        refine wpIn_append_at _ _ _ 83 rfl F 88 i0 (.agg #[.int .i64 0, .int .i64 0, .int .i64 0, .slice none 0 0]) 4 48 Tryz.underlying83 hi0 hz0 hz1 hz2 rfl (by decide) _ _ _ rfl hrowA ⟨W.heap.size, 0, none⟩ 1 1 [.int .i64 (L : Int), .int .i64 (a : Int), .int .i64 (b : Int), .slice A' n c] rfl rfl hcA (by intro u hu; simp at hu; rcases hu with rfl | rfl | rfl | rfl <;> rfl) (by simp only [maxLen]; omega) (by omega) (by show F ≤ (W1.alloc _).heap.size; simp; omega) ?_
        intro v' w1 hown' hgrow hat
        obtain ⟨g', cap', rfl⟩ := ownsRow_succ hown'
        have hkeep : ∀ k, k < W.heap.size → some k ≠ (Value.slice Ao acc.length co).ownBlock → w1.heap[k]? = W1.heap[k]? := fun k hk hne =>
          (hgrow.block k (by show k < (W1.alloc _).heap.size; simp; omega) hne).trans (Below.heap_alloc W1 _ k (by omega))
        have hnR : some R ≠ (Value.slice Ao acc.length co).ownBlock := fun e => by have := (hlowg R e.symm).2; omega
        have hnx : some w.heap.size ≠ (Value.slice Ao acc.length co).ownBlock := fun e => by have := (hlowg w.heap.size e.symm).2; omega
        have hnr : some rb ≠ (Value.slice Ao acc.length co).ownBlock := fun e => by have := (hlowg rb e.symm).1; omega
        have hRW8 := (hkeep R (by omega) hnR).trans HRW1.out
        have hbx8 := (hkeep w.heap.size (by omega) hnx).trans Hbx1.out
        have hrb8 := (hkeep rb (by omega) hnr).trans Hrb1.out
        have c2 : w1.cell? ⟨R, 2, none⟩ = some (.slice Ao acc.length co) := cell_blk hRW8 2
        have f2 : w1.frozen? ⟨R, 2, none⟩ = false := frozen_blk hRW8 2
        refine ⟨⟨cell_blk hbx8 0, c2, cell_blk hrb8 0, cell_blk hrb8 1, cell_blk hrb8 2, cell_blk hrb8 3⟩, ?_⟩
        have HKeep := Lib.hid hkeep
        have HRW8 := Lib.hid hRW8
        have Hbx8 := Lib.hid hbx8
        have Hgrow := Lib.hid hgrow
        have Hown := Lib.hid hown'
        have Hat := Lib.hid hat
        have HrowA := Lib.hid hrowA
        have Hlowg := Lib.hid hlowg
        clear hkeep hRW8 hbx8 hrb8 hgrow hown' hat hrowA hlowg hcA e1 e2 e3 e4 e5 e6
        gi_wp2
        have hsz8 : W.heap.size < w1.heap.size := by
          have := Hgrow.out.size
          simp at this
          omega
        have hwF : ∀ k, k ≠ R → (w1.setCell ⟨R, 2, none⟩ (.slice (some ⟨g', 0, none⟩) (acc.length + 1) cap')).heap[k]? = w1.heap[k]? := fun k hk => Below.heap_setCell _ _ _ _ hk
        have hsF : (w1.setCell ⟨R, 2, none⟩ (.slice (some ⟨g', 0, none⟩) (acc.length + 1) cap')).heap.size = w1.heap.size := by simp [World.setCell]
        have hkp : ∀ k, F ≤ k → k < m → some k ≠ (Value.slice Ao acc.length co).ownBlock → (w1.setCell ⟨R, 2, none⟩ (.slice (some ⟨g', 0, none⟩) (acc.length + 1) cap')).heap[k]? = W.heap[k]? := fun k h1 h2 h3 =>
          (hwF k (by omega)).trans ((HKeep.out k (by omega) h3).trans (Hoth.out k (by omega)))
        have hmv : (Value.slice (some ⟨g', 0, none⟩) (acc.length + 1) cap').ownBlock = (Value.slice Ao acc.length co).ownBlock ∨ ∃ k, m ≤ k ∧ (Value.slice (some ⟨g', 0, none⟩) (acc.length + 1) cap').ownBlock = some k :=
          Hat.out.imp id fun e => ⟨_, (by show m ≤ (W1.alloc _).heap.size; simp; omega), e⟩
        have hoff : Off F (Value.slice (some ⟨g', 0, none⟩) (acc.length + 1) cap').ownBlock A' n := fun hn0 => by
          obtain ⟨b', o', e', hb'⟩ := Hfr.out hn0
          obtain ⟨b2, o2, e2, hlt2, _⟩ := Hms.out.at_ hn0
          rw [e'] at e2
          obtain ⟨rfl, rfl⟩ : b' = b2 ∧ o' = o2 := by simpa using e2
          refine ⟨b', o', e', by omega, fun e => ?_⟩
          rcases Hat.out with h | h
          · rw [h] at e; have := (Hlowg.out b' e.symm).1; omega
          · rw [h] at e
            have e3 : b' = (W1.alloc (.cells #[.int .i64 (L : Int), .int .i64 (a : Int), .int .i64 (b : Int), .slice A' n c] 88)).heap.size := by simpa using e
            simp at e3
            omega
        have hoff0 : Off m (Value.slice Ao acc.length co).ownBlock A' n := fun hn0 => by
          obtain ⟨b', o', e', hb'⟩ := Hfr.out hn0
          exact ⟨b', o', e', hb', fun e => by have := (Hlowg.out b' e.symm).1; omega⟩
        have hst8 : Strs (w1.setCell ⟨R, 2, none⟩ (.slice (some ⟨g', 0, none⟩) (acc.length + 1) cap')) (w1.setCell ⟨R, 2, none⟩ (.slice (some ⟨g', 0, none⟩) (acc.length + 1) cap')).heap.size A' n fs :=
          Hms.out.kept hoff0 (fun k h1 h2 h3 => (hwF k (by omega)).trans ((HKeep.out k (by omega) h3).trans (Hoth.out k (by omega)))) (by rw [hsF]; omega)
        have hrc8 := ((((Hrcm.out.keep hkp (Nat.le_refl _)).move hmv).keep (w' := w1.setCell ⟨R, 2, none⟩ (.slice (some ⟨g', 0, none⟩) (acc.length + 1) cap')) (fun _ _ _ _ => rfl) (show m ≤ (w1.setCell ⟨R, 2, none⟩ (.slice (some ⟨g', 0, none⟩) (acc.length + 1) cap')).heap.size by rw [hsF]; omega))).snoc
          (x := { line := (L : Int), f := (a : Int), t := (b : Int), fs := fs }) hst8 hnc hoff
        refine ⟨?_, .int .i64 (L : Int), .slice (some ⟨g', 0, none⟩) (acc.length + 1) cap', xs ++ recCs { line := (L : Int), f := (a : Int), t := (b : Int), fs := fs } A' n c, acc ++ [{ line := (L : Int), f := (a : Int), t := (b : Int), fs := fs }], ?_⟩
        · exact Hk1.out.trans ((KeepE.below (by omega) (((Below.refl _ W1).alloc (Nat.le_refl _) _).drew)).trans ((KeepE.grown (by show R ≤ (W1.alloc _).heap.size; simp; omega) Hgrow.out (fun k hk => by
            obtain ⟨h1, h2⟩ := row_data HrowA.out k hk
            exact ⟨by omega, .inr h1, h2⟩)).trans (KeepE.setCell (O := fun k => k = R) (B0 := R) (F := F) _ (p := ⟨R, 2, none⟩) (.inl rfl) (Nat.le_refl _) _)))
        · refine ⟨⟨(Hgrow.out.os.trans How1.out.1).trans Hst.out.ap.os, (Hgrow.out.tape.trans ?_).trans Hst.out.ap.tape, (Hgrow.out.output.trans How1.out.2.2).trans Hst.out.ap.output, ?_, ?_⟩, hF, ?_, ?_, ?_, hrc8, ?_, HEq.out⟩
          · exact How1.out.2.1
          · rw [hsF]; omega
          · exact fun k hk hO => (hwF k hO).trans ((HKeep.out k (by omega) (fun e => by have := (Hlowg.out k e.symm).2; omega)).trans ((Hoth.out k (by omega)).trans (Hst.out.ap.block k hk hO)))
          · simpa using setCell_blk HRW8.out 2 (.slice (some ⟨g', 0, none⟩) (acc.length + 1) cap')
          · exact (hwF _ (by omega)).trans Hbx8.out
          · rw [List.length_append]
            exact Hown.out.kept (grownBy_setCell2 w1 R 2 _) (.inr (blk_not_row HRW8.out (by decide) Hown.out).symm)
          · rw [List.length_append]
            show acc.length + 1 ≤ 300
            omega
  case hdone =>
    rintro D F W hD ⟨l, v, xs, acc, hst⟩ hK
    have hDs : D < W.heap.size := (Array.getElem?_eq_some_iff.1 hK).1
    have hap := hst.ap
    have hrd := hst.rd
    have hq := hst.eq
    have hlen := hst.len
    rw [List.drop_length, recsE] at hq
    have hfr : ∀ A n c, v = .slice A n c → Fresh w.heap.size A n := fun A n c e hn => by
      rcases hst.row.2 with ⟨h, _⟩ | ⟨g, cap, cur, h, hg, _⟩
      · rw [h] at e; cases e; omega
      · rw [h] at e; cases e; exact ⟨g, 0, rfl, by have := hst.hF; omega⟩
    obtain ⟨A, n, c, rfl, hn, hnc, hrecs⟩ := recs_own hst.row hst.rcs (Nat.le_refl _)
    have hfr2 := hfr _ _ _ rfl
    clear hst hfr
    go_wp2
    refine ⟨by simp, .inl ⟨_, _, rfl, run_takeDeferred hK, ?_⟩⟩
    refine ⟨.tuple #[], by simp [results, Tryz.results101, go_sem], ⟨_, rfl⟩, ⟨hap.os, hap.tape, hap.output, by have := hap.size; simp; omega, fun k hk hO => (World.putObj_heap_other (by omega)).trans (hap.block k hk hO)⟩,
      .inl ⟨acc, l, A, n, c, hq, (World.putObj_heap_other (by omega)).trans hrd, hnc, ?_, hfr2, hlen⟩⟩
    simpa using hrecs.put hK rfl
  case hstop =>
    rintro D i c W hD hi ⟨rfl, l, why, o, hap, heq, hr⟩ hK
    have hDs : D < W.heap.size := (Array.getElem?_eq_some_iff.1 hK).1
    gi_wp2
    refine ⟨by simp, .inl ⟨_, _, rfl, run_takeDeferred hK, ?_⟩⟩
    exact ⟨.tuple #[], by simp [results, Tryz.results101, go_sem], ⟨_, rfl⟩, ⟨hap.os, hap.tape, hap.output, by have := hap.size; simp; omega, fun k hk hO => (World.putObj_heap_other (by omega)).trans (hap.block k hk hO)⟩,
      .inr ⟨l, why, o, heq, (World.putObj_heap_other (by omega)).trans hr⟩⟩
end Go.Vir


namespace Go.Vir
open Go Go.RowKit Go.Proofs Go.Extern.Stop Go.Stop Go.Extern

theorem fw_valueOfP (t : Addr) (w : World) : (ReflectliteValue.unpack (.iface 184 (.pointer (some t)))).run Tryz.prog w
    = .ok (.agg #[.pointer (some ⟨7, 184, none⟩), .pointer (some ⟨w.heap.size, 0, none⟩), .int .u64 150]) (w.alloc (.cells #[.pointer (some t)] 184)) := by kernel_rfl
theorem fw_typeP (a : Addr) (w : World) : (ReflectliteValue.methodAny (ReflectliteValue.valueError "reflectlite.Value.Type" 0) (fun t _ _ _ => ReflectliteType.toType t) #[.agg #[.pointer (some ⟨7, 184, none⟩), .pointer (some a), .int .u64 150]]).run Tryz.prog w
    = .ok (.iface 159 (.agg #[.pointer (some ⟨7, 184, none⟩)])) w := by kernel_rfl
theorem fw_kindP (w : World) : ((ReflectliteType.abiMethod fun t => (fun a : Nat => Value.int IntKind.u8 (a : Int)) <$> Rtype.kind t) #[.pointer (some ⟨7, 184, none⟩)]).run Tryz.prog w = .ok (.int .u8 22) w := by kernel_rfl
theorem fw_kindS (w : World) : ((ReflectliteType.abiMethod fun t => (fun a : Nat => Value.int IntKind.u8 (a : Int)) <$> Rtype.kind t) #[.pointer (some ⟨7, 183, none⟩)]).run Tryz.prog w = .ok (.int .u8 25) w := by kernel_rfl
theorem fw_partsP (a : Addr) (w : World) : (ReflectliteValue.parts (.agg #[.pointer (some ⟨7, 184, none⟩), .pointer (some a), .int .u64 150])).run Tryz.prog w = .ok (some (184, a, 150)) w := by kernel_rfl
theorem fw_isNilP (a p : Addr) (W : World) (ha : W.cell? a = some (.pointer (some p))) :
    (ReflectliteValue.method (ReflectliteValue.valueError "reflectlite.Value.IsNil" 0) ReflectliteValue.isNil #[.agg #[.pointer (some ⟨7, 184, none⟩), .pointer (some a), .int .u64 150]]).run Tryz.prog W = .ok (.bool false) W := by
  rw [rlm]
  simp only [Sem.run_bind, fw_partsP, Result.andThen]
  simp [ReflectliteValue.isNil, loadVar, isAgg, underlying, Tryz.underlying184, ha, Result.andThen]
theorem fw_elemP (w : World) : (ReflectliteType.method ReflectliteType.elem #[.agg #[.pointer (some ⟨7, 184, none⟩)]]).run Tryz.prog w = .ok (.iface 159 (.agg #[.pointer (some ⟨7, 183, none⟩)])) w := by kernel_rfl
theorem fw_implS (w : World) : (ReflectliteType.relation "Implements" ReflectliteType.implements_ #[.agg #[.pointer (some ⟨7, 183, none⟩)], .iface 159 (.agg #[.pointer (some ⟨7, 50, none⟩)])]).run Tryz.prog w = .ok (.bool true) w := by kernel_rfl
theorem fw_typeOfS (v : Value) (w : World) : (ReflectliteType.typeOf #[.iface 183 v]).run Tryz.prog w = .ok (.iface 159 (.agg #[.pointer (some ⟨7, 183, none⟩)])) w := by kernel_rfl
theorem fw_assS (w : World) : (ReflectliteType.relation "AssignableTo" ReflectliteType.assignableTo #[.agg #[.pointer (some ⟨7, 183, none⟩)], .iface 159 (.agg #[.pointer (some ⟨7, 183, none⟩)])]).run Tryz.prog w = .ok (.bool true) w := by kernel_rfl
theorem fw_valueOfS (c0 : Value) (w : World) : (ReflectliteValue.unpack (.iface 183 (.agg #[c0]))).run Tryz.prog w
    = .ok (.agg #[.pointer (some ⟨7, 183, none⟩), .pointer (some ⟨w.heap.size, 0, none⟩), .int .u64 153]) (w.alloc (.cells #[c0] 183)) := by kernel_rfl
theorem fw_elemOfP (w : World) : (Rtype.elem? 184).run Tryz.prog w = .ok (some 183) w := by kernel_rfl
theorem fw_mkS (p : Addr) (w : World) : (ReflectliteValue.mk 183 p ReflectliteValue.flagAddr).run Tryz.prog w = .ok (.agg #[.pointer (some ⟨7, 183, none⟩), .pointer (some p), .int .u64 409]) w := by kernel_rfl
theorem fw_elemVP (a p : Addr) (W : World) (ha : W.cell? a = some (.pointer (some p))) :
    (ReflectliteValue.method (ReflectliteValue.valueError "reflectlite.Value.Elem" 0) ReflectliteValue.elem #[.agg #[.pointer (some ⟨7, 184, none⟩), .pointer (some a), .int .u64 150]]).run Tryz.prog W
      = .ok (.agg #[.pointer (some ⟨7, 183, none⟩), .pointer (some p), .int .u64 409]) W := by
  rw [rlm]
  simp only [Sem.run_bind, fw_partsP, Result.andThen]
  simp [ReflectliteValue.elem, loadVar, isAgg, underlying, Tryz.underlying184, ha, Result.andThen, fw_elemOfP, fw_mkS]
theorem fw_partsA (a : Addr) (w : World) : (ReflectliteValue.parts (.agg #[.pointer (some ⟨7, 183, none⟩), .pointer (some a), .int .u64 409])).run Tryz.prog w = .ok (some (183, a, 409)) w := by kernel_rfl
theorem fw_partsS (a : Addr) (w : World) : (ReflectliteValue.parts (.agg #[.pointer (some ⟨7, 183, none⟩), .pointer (some a), .int .u64 153])).run Tryz.prog w = .ok (some (183, a, 153)) w := by kernel_rfl
theorem fw_directS (w : World) : (Rtype.directlyAssignable 183 183).run Tryz.prog w = .ok true w := by kernel_rfl
theorem fw_sizeS (w : World) : (sizeOf 183).run Tryz.prog w = .ok 1 w := by kernel_rfl
theorem fw_aggS (w : World) : (isAgg 183).run Tryz.prog w = .ok true w := by kernel_rfl
theorem fw_setS (tb bb : Nat) (c0 o0 : Value) (W : World) (h0 : c0.oneCell' = true)
    (hb0 : W.cell? ⟨bb, 0, none⟩ = some c0)
    (ht0 : W.cell? ⟨tb, 0, none⟩ = some o0) (hf0 : W.frozen? ⟨tb, 0, none⟩ = false) :
    (ReflectliteValue.set #[.agg #[.pointer (some ⟨7, 183, none⟩), .pointer (some ⟨tb, 0, none⟩), .int .u64 409], .agg #[.pointer (some ⟨7, 183, none⟩), .pointer (some ⟨bb, 0, none⟩), .int .u64 153]]).run Tryz.prog W
      = .ok (.tuple #[]) (W.setCell ⟨tb, 0, none⟩ c0) := by
  have e1 : (loadVar 183 ⟨bb, 0, none⟩).run Tryz.prog W = .ok (.agg #[c0]) W := by
    unfold loadVar
    simp only [Sem.run_bind, fw_aggS, fw_sizeS, Result.andThen, if_true]
    simp [Result.andThen, loadCells, loadCellsFrom, Addr.add, hb0]
  have hv : (Value.agg #[c0]).cells = #[c0] := rfl
  have e2 : (storeVar 183 ⟨tb, 0, none⟩ (.agg #[c0])).run Tryz.prog W = .ok () (W.setCell ⟨tb, 0, none⟩ c0) := by
    unfold storeVar
    simp only [hv]
    simp only [Sem.run_bind, fw_sizeS, Result.andThen]
    simp only [storeCells, Addr.add, Sem.run_bind, List.size_toArray, List.length_cons, List.length_nil, ne_eq, not_true_eq_false, if_false, Sem.run_pure, Result.andThen]
    rw [run_store Tryz.prog W _ _ _ h0]
    simp only [↓reduceIte, ht0, hf0, Bool.false_eq_true]
  rw [rls]
  simp only [Sem.run_bind, fw_partsA, fw_partsS, Result.andThen]
  simp [ReflectliteValue.flagAddr, e1, e2, Result.andThen, fw_directS]
set_option maxHeartbeats 4000000 in
theorem field_as_hit (c0 : Value) (tb : Nat) (o0 : Value) (w : World) (h0 : c0.oneCell' = true) (htl : tb < w.heap.size)
    (ht0 : w.cell? ⟨tb, 0, none⟩ = some o0) (hf0 : w.frozen? ⟨tb, 0, none⟩ = false) (vb : Nat) (hvb : vb < w.heap.size) (hv : w.cell? ⟨vb, 0, none⟩ = some (.pointer (some ⟨tb, 0, none⟩))) :
    Calls Tryz.prog 87 #[.iface 183 (.agg #[c0]), .iface 184 (.pointer (some ⟨tb, 0, none⟩)), .agg #[.pointer (some ⟨7, 184, none⟩), .pointer (some ⟨vb, 0, none⟩), .int .u64 150], .iface 159 (.agg #[.pointer (some ⟨7, 183, none⟩)])] w fun ev w' =>
      ev = .returned (.bool true) ∧ w'.cell? ⟨tb, 0, none⟩ = some c0 ∧ Below tb w w' := by
  have hTO := @run_callFunc_extern Tryz.prog 110 _ ReflectliteType.typeOf Tryz.func110 (by kernel_rfl) (by kernel_rfl) (by kernel_rfl) (by kernel_rfl)
  have hAT := @run_callFunc_extern Tryz.prog 277 _ (ReflectliteType.relation "AssignableTo" ReflectliteType.assignableTo) Tryz.func277 (by kernel_rfl) (by kernel_rfl) (by kernel_rfl) (by kernel_rfl)
  have hEl := @run_callFunc_extern Tryz.prog 111 _ (ReflectliteValue.method (ReflectliteValue.valueError "reflectlite.Value.Elem" 0) ReflectliteValue.elem) Tryz.func111 (by kernel_rfl) (by kernel_rfl) (by kernel_rfl) (by kernel_rfl)
  have hSe := @run_callFunc_extern Tryz.prog 112 _ ReflectliteValue.set Tryz.func112 (by kernel_rfl) (by kernel_rfl) (by kernel_rfl) (by kernel_rfl)
  have hVO := @run_callFunc_extern Tryz.prog 84 _ (fun args => ReflectliteValue.unpack (args.getD 0 (.tuple #[]))) Tryz.func84 (by kernel_rfl) (by kernel_rfl) (by kernel_rfl) (by kernel_rfl)
  have tO := fw_typeOfS
  have mA := cw_methodAssignableTo
  have aS := fw_assS
  have vS := fw_valueOfS
  have el : ∀ o, (ReflectliteValue.method (ReflectliteValue.valueError "reflectlite.Value.Elem" 0) ReflectliteValue.elem #[.agg #[.pointer (some ⟨7, 184, none⟩), .pointer (some ⟨vb, 0, none⟩), .int .u64 150]]).run Tryz.prog (w.alloc o)
      = .ok (.agg #[.pointer (some ⟨7, 183, none⟩), .pointer (some ⟨tb, 0, none⟩), .int .u64 409]) (w.alloc o) :=
    fun o => fw_elemVP _ _ _ ((World.cell?_alloc_lt _ _ _ hvb).trans hv)
  have st : ∀ o, (ReflectliteValue.set #[.agg #[.pointer (some ⟨7, 183, none⟩), .pointer (some ⟨tb, 0, none⟩), .int .u64 409], .agg #[.pointer (some ⟨7, 183, none⟩), .pointer (some ⟨w.heap.size + 1, 0, none⟩), .int .u64 153]]).run Tryz.prog ((w.alloc o).alloc (.cells #[c0] 183))
      = .ok (.tuple #[]) (((w.alloc o).alloc (.cells #[c0] 183)).setCell ⟨tb, 0, none⟩ c0) := fun o => by
    have hb : ((w.alloc o).alloc (.cells #[c0] 183)).heap[w.heap.size + 1]? = some (.cells #[c0] 183 (0, 0)) := heap_new (by simp)
    exact fw_setS tb (w.heap.size + 1) c0 o0 _ h0 (cell_blk hb 0)
      (by rw [World.cell?_alloc_lt _ _ _ (by first | (simp; done) | (simp; omega)), World.cell?_alloc_lt _ _ _ htl]; exact ht0)
      (by rw [World.frozen?_alloc_old _ _ _ (by first | (simp; done) | (simp; omega)), World.frozen?_alloc_old _ _ _ (Nat.ne_of_lt htl)]; exact hf0)
  go_enter Tryz.func87, Tryz.ntmps87
  go_wp2
  refine wp_loop_rounds 1 ?_
  rw [rounds_succ]
  go_wp2
  go_ret
  refine ⟨rfl, ?_, ?_⟩
  · rw [World.cell?_alloc_lt _ _ _ (by first | (simp; done) | (simp; omega)), World.cell?_alloc_lt _ _ _ (by simp; omega), World.cell?_setCell_same' _ _ _ (by simp [ht0])]
  · go_grown

set_option maxHeartbeats 4000000 in
theorem field_as (c0 : Value) (tb : Nat) (o0 : Value) (w : World) (h0 : c0.oneCell' = true) (htl : tb < w.heap.size)
    (hg : w.cell? ⟨0, 0, none⟩ = some (.iface 159 (.agg #[.pointer (some ⟨7, 50, none⟩)]))) (hgl : 0 < w.heap.size)
    (ht0 : w.cell? ⟨tb, 0, none⟩ = some o0) (hf0 : w.frozen? ⟨tb, 0, none⟩ = false) :
    Calls Tryz.prog 51 #[.iface 183 (.agg #[c0]), .iface 184 (.pointer (some ⟨tb, 0, none⟩))] w fun ev w' =>
      ev = .returned (.bool true) ∧ w'.cell? ⟨tb, 0, none⟩ = some c0 ∧ Below tb w w' := by
  have h6 := @run_callFunc_extern Tryz.prog 84 _ (fun args => ReflectliteValue.unpack (args.getD 0 (.tuple #[]))) Tryz.func84 (by kernel_rfl) (by kernel_rfl) (by kernel_rfl) (by kernel_rfl)
  have h7 := @run_callFunc_extern Tryz.prog 85 _ (ReflectliteValue.methodAny (ReflectliteValue.valueError "reflectlite.Value.Type" 0) (fun t _ _ _ => ReflectliteType.toType t)) Tryz.func85 (by kernel_rfl) (by kernel_rfl) (by kernel_rfl) (by kernel_rfl)
  have h8 := @run_callFunc_extern Tryz.prog 86 _ (ReflectliteValue.method (ReflectliteValue.valueError "reflectlite.Value.IsNil" 0) ReflectliteValue.isNil) Tryz.func86 (by kernel_rfl) (by kernel_rfl) (by kernel_rfl) (by kernel_rfl)
  have h27 := @run_callFunc_extern Tryz.prog 269 _ (ReflectliteType.abiMethod fun t => do pure (.int .u8 (← Rtype.kind t))) Tryz.func269 (by kernel_rfl) (by kernel_rfl) (by kernel_rfl) (by kernel_rfl)
  have h37 := @run_callFunc_extern Tryz.prog 279 _ (ReflectliteType.method ReflectliteType.elem) Tryz.func279 (by kernel_rfl) (by kernel_rfl) (by kernel_rfl) (by kernel_rfl)
  have h38 := @run_callFunc_extern Tryz.prog 280 _ (ReflectliteType.relation "Implements" ReflectliteType.implements_) Tryz.func280 (by kernel_rfl) (by kernel_rfl) (by kernel_rfl) (by kernel_rfl)
  have f6 := fw_valueOfP
  have f7 := fw_typeP
  have mK := cw_methodKind
  have mE := cw_methodElem
  have mI := cw_methodImplements
  have kP := fw_kindP
  have kS := fw_kindS
  have eP := fw_elemP
  have iS := fw_implS
  have n8 : ∀ o, (ReflectliteValue.method (ReflectliteValue.valueError "reflectlite.Value.IsNil" 0) ReflectliteValue.isNil #[.agg #[.pointer (some ⟨7, 184, none⟩), .pointer (some ⟨w.heap.size, 0, none⟩), .int .u64 150]]).run Tryz.prog ((w.alloc (.cells #[.pointer (some ⟨tb, 0, none⟩)] 184)).alloc o) = .ok (.bool false) ((w.alloc (.cells #[.pointer (some ⟨tb, 0, none⟩)] 184)).alloc o) := fun o =>
    fw_isNilP _ ⟨tb, 0, none⟩ _ (cell_blk ((heap_old (by simp)).trans (heap_new rfl)) 0)
  have hc := fun W q1 q2 q3 q8 q9 => field_as_hit c0 tb o0 W h0 q1 q2 q3 w.heap.size q8 q9
  have Hc := Lib.hid hc
  clear hc
  go_enter Tryz.func51, Tryz.ntmps51
  go_wp2_with (go_at_call 87; refine (Hc.out _ (by first | (simp; done) | (simp; omega)) ((World.cell?_of_block (Below.block (B := w.heap.size) (by go_grown) _ htl)).trans ht0) ((frozen_of_block (Below.block (B := w.heap.size) (by go_grown) _ htl)).trans hf0) (by simp; omega) (cell_blk (cs := #[.pointer (some ⟨tb, 0, none⟩)]) (t := 184) (m := (0, 0)) (by simp (disch := (first | omega | (simp only [World.size_alloc]; omega))) only [heap_new, heap_old]) 0)).mono ?_; rintro ev w1 ⟨rfl, hr0, hr9⟩)
  go_ret
  exact ⟨rfl, hr0, Below.trans (by go_grown) hr9⟩

set_option maxHeartbeats 4000000 in
theorem field_told (c0 : Value) (w : World) (h0 : c0.oneCell' = true)
    (hg : w.cell? ⟨0, 0, none⟩ = some (.iface 159 (.agg #[.pointer (some ⟨7, 50, none⟩)]))) (hgl : 0 < w.heap.size) :
    Calls Tryz.prog 102 #[.iface 183 (.agg #[c0])] w fun ev w' => ev = .returned (c0) ∧ Below w.heap.size w w' := by
  have hc : ∀ o0, Calls Tryz.prog 51 #[.iface 183 (.agg #[c0]), .iface 184 (.pointer (some ⟨w.heap.size, 0, none⟩))] (w.alloc (.cells #[o0] 183)) fun ev w' =>
      ev = .returned (.bool true) ∧ w'.cell? ⟨w.heap.size, 0, none⟩ = some c0 ∧ Below w.heap.size (w.alloc (.cells #[o0] 183)) w' := fun o0 => by
    have hb : (w.alloc (.cells #[o0] 183)).heap[w.heap.size]? = some (.cells #[o0] 183 (0, 0)) := heap_new rfl
    exact field_as c0 w.heap.size o0 _ h0 (by simp) ((World.cell?_alloc_lt _ _ _ hgl).trans hg) (by first | (simp; done) | (simp; omega)) (cell_blk hb 0) (frozen_blk hb 0)
  have Hc := Lib.hid hc
  clear hc hg
  go_enter Tryz.func102, Tryz.ntmps102
  go_wp2_with (go_at_call 51; refine (Hc.out _).mono ?_; rintro ev w1 ⟨rfl, hr0, hr9⟩)
  go_ret
  exact ⟨rfl, Below.trans (by go_grown) hr9⟩

end Go.Vir


namespace Go.Vir
open Go Go.RowKit Go.Proofs Go.Shelf
attribute [local go_sem] Oper.semAt_some

structure GlobF (w : World) : Prop where
  mlen : ∃ m, w.cell? ⟨4, 0, none⟩ = some (.int .i64 m)
  mlt : 4 < w.heap.size
  typ : w.cell? ⟨0, 0, none⟩ = some (.iface 159 (.agg #[.pointer (some ⟨7, 50, none⟩)]))
  tlt : 0 < w.heap.size
theorem GlobF.below {w W : World} (h : GlobF w) (hb : Below w.heap.size w W) : GlobF W :=
  ⟨h.mlen.imp fun _ hm => (cellOf hb h.mlt).trans hm, Nat.lt_of_lt_of_le h.mlt hb.size, (cellOf hb h.tlt).trans h.typ, Nat.lt_of_lt_of_le h.tlt hb.size⟩

set_option maxRecDepth 100000 in
set_option maxHeartbeats 4000000 in
theorem field_Parse (s : List UInt8) (w : World) (hG : GlobF w) (hl : s.length ≤ 20000) :
    Calls Tryz.prog 72 #[.string ⟨s.toArray⟩] w fun e w' => ∃ A n c, e = .returned (.tuple #[.slice A n c, .int .i64 (fileN s).2.1, .int .i64 (fileN s).2.2]) ∧ n ≤ c ∧ Recs w' w'.heap.size A n (fileN s).1 ∧ Below w.heap.size w w' := by
  have hbA : Below w.heap.size w (w.alloc (.cells #[.string ⟨s.toArray⟩, .int .i64 0, .slice none 0 0, .nilIface] 152)) := by go_grown
  have hrd := field_read w.heap.size s (.int .i64 0) (w.alloc (.cells #[.string ⟨s.toArray⟩, .int .i64 0, .slice none 0 0, .nilIface] 152)) (hG.below hbA).mlen hG.mlt (heap_new rfl) (by omega)
  generalize fileN s = F at hrd ⊢
  have Hrd := Lib.hid hrd
  have HG := Lib.hid hG
  have HbA := Lib.hid hbA
  have hle : decide (20000 < (s.length : Int)) = false := decide_eq_false (by omega)
  clear hrd hG hbA hl
  go_enter Tryz.func72, Tryz.ntmps72
  go_wp2_with fail
  refine Hrd.out.mono ?_
  rintro e w1 ⟨⟨v, rfl⟩, hap, (⟨acc, l, A, n, c, hr, hb, hnc, hrecs, hfr, hlen⟩ | ⟨l, why, o, hr, hb⟩)⟩
  · have hbw : Below w.heap.size w w1 := HbA.out.trans ⟨hap.os, hap.tape, hap.output, hap.size, fun k hk => hap.block k (by simp; omega) (by omega)⟩
    have c2 : w1.cell? ⟨w.heap.size, 2, none⟩ = some (.slice A n c) := cell_blk hb 2
    have c3 : w1.cell? ⟨w.heap.size, 3, none⟩ = some .nilIface := cell_blk hb 3
    have Hr := Lib.hid hr
    have Hrecs := Lib.hid hrecs
    clear hap hb hr hrecs hfr hlen
    go_wp2_with fail
    go_ret3
    refine ⟨A, n, c, ?_, hnc, ?_, hbw⟩
    · rw [Hr.out]; rfl
    · rw [Hr.out]; exact Hrecs.out
  · have hbw : Below w.heap.size w w1 := HbA.out.trans ⟨hap.os, hap.tape, hap.output, hap.size, fun k hk => hap.block k (by simp; omega) (by omega)⟩
    have c1 : w1.cell? ⟨w.heap.size, 1, none⟩ = some (.int .i64 (l : Int)) := cell_blk hb 1
    have c3 : w1.cell? ⟨w.heap.size, 3, none⟩ = some (.iface 183 (.agg #[.int .i64 why])) := cell_blk hb 3
    have hlt : w.heap.size < w1.heap.size := (Array.getElem?_eq_some_iff.1 hb).1
    have htd := field_told (.int .i64 why) w1.drew rfl (HG.out.below (hbw.trans (Below.refl _ _).drew)).typ (HG.out.below (hbw.trans (Below.refl _ _).drew)).tlt
    have Htd := Lib.hid htd
    have Hr := Lib.hid hr
    have Hlt := Lib.hid hlt
    have Hbw := Lib.hid hbw
    clear hap hb hr htd hlt hbw
    go_wp2_with fail

    refine wp_region_noPanic ?_
    refine wp_region_held_drew (S := (fun V => V.cell? ⟨w.heap.size, 1, none⟩ = some (.int .i64 (l : Int)) ∧ V.cell? ⟨w.heap.size, 3, none⟩ = some (.iface 183 (.agg #[.int .i64 why])))) (by kernel_rfl) ⟨c1, c3⟩ (fun hHeld => ?_)
    refine wpAnyH_take (i := 0) (v := .pointer (some ⟨w.heap.size, 0, none⟩)) rfl (by kernel_rfl) (by kernel_rfl) (by kernel_rfl) (fun _ _ _ h => h) (.inl ⟨by rfl, fun V hV => by obtain ⟨c0, c1⟩ := hV; go_simp⟩) hHeld ?_
    try simp only [Act.put, qB, qC, qE, qF, qG]
    refine wpAnyH_take (i := 1) (v := .pointer (some ⟨w.heap.size, 0, none⟩)) rfl (by kernel_rfl) (by kernel_rfl) (by kernel_rfl) (fun _ _ _ h => h) (.inl ⟨by rfl, fun V hV => by obtain ⟨c0, c1⟩ := hV; go_simp⟩) hHeld ?_
    try simp only [Act.put, qB, qC, qD, qE, qF, qG]
    refine wpAnyH_take (i := 2) (v := .pointer (some ⟨w.heap.size, 0, none⟩)) rfl (by kernel_rfl) (by kernel_rfl) (by kernel_rfl) (fun _ _ _ h => h) (.inl ⟨by rfl, fun V hV => by obtain ⟨c0, c1⟩ := hV; go_simp⟩) hHeld ?_
    try simp only [Act.put, qB, qC, qD, qE, qF, qG]
    refine wpAnyH_take (i := 3) (v := .pointer (some ⟨w.heap.size, 1, none⟩)) rfl (by kernel_rfl) (by kernel_rfl) (by kernel_rfl) (fun _ _ _ h => h) (.inl ⟨by rfl, fun V hV => by obtain ⟨c0, c1⟩ := hV; go_simp⟩) hHeld ?_
    try simp only [Act.put, qB, qC, qD, qE, qF, qG]
    refine wpAnyH_take (i := 4) (v := .int .i64 (l : Int)) rfl (by kernel_rfl) (by kernel_rfl) (by kernel_rfl) (fun _ _ _ h => h) (.inl ⟨by rfl, fun V hV => by obtain ⟨c0, c1⟩ := hV; go_simp⟩) hHeld ?_
    try simp only [Act.put, qB, qC, qD, qE, qF, qG]
    refine wpAnyH_take (i := 5) (v := .pointer (some ⟨w.heap.size, 0, none⟩)) rfl (by kernel_rfl) (by kernel_rfl) (by kernel_rfl) (fun _ _ _ h => h) (.inl ⟨by rfl, fun V hV => by obtain ⟨c0, c1⟩ := hV; go_simp⟩) hHeld ?_
    try simp only [Act.put, qB, qC, qD, qE, qF, qG]
    refine wpAnyH_take (i := 6) (v := .pointer (some ⟨w.heap.size, 0, none⟩)) rfl (by kernel_rfl) (by kernel_rfl) (by kernel_rfl) (fun _ _ _ h => h) (.inl ⟨by rfl, fun V hV => by obtain ⟨c0, c1⟩ := hV; go_simp⟩) hHeld ?_
    try simp only [Act.put, qB, qC, qD, qE, qF, qG]
    refine wpAnyH_take (i := 7) (v := .pointer (some ⟨w.heap.size, 3, none⟩)) rfl (by kernel_rfl) (by kernel_rfl) (by kernel_rfl) (fun _ _ _ h => h) (.inl ⟨by rfl, fun V hV => by obtain ⟨c0, c1⟩ := hV; go_simp⟩) hHeld ?_
    try simp only [Act.put, qB, qC, qD, qE, qF, qG]
    refine wpAnyH_take (i := 8) (v := .iface 183 (.agg #[.int .i64 why])) rfl (by kernel_rfl) (by kernel_rfl) (by kernel_rfl) (fun _ _ _ h => h) (.inl ⟨by rfl, fun V hV => by obtain ⟨c0, c1⟩ := hV; go_simp⟩) hHeld ?_
    try simp only [Act.put, qB, qC, qD, qE, qF, qG]
    refine wpAnyH_ready (rs := [9]) (by kernel_rfl) (by simp) ?_
    refine AllReadyH.cons rfl (fun K hK => ?_) AllReadyH.nil
    go_simp
    refine (Htd.out).mono ?_
    rintro e w6 ⟨rfl, hb6⟩
    have d1 : w6.cell? ⟨w.heap.size, 1, none⟩ = some (.int .i64 (l : Int)) := (cellOf hb6 Hlt.out).trans c1
    have d3 : w6.cell? ⟨w.heap.size, 3, none⟩ = some (.iface 183 (.agg #[.int .i64 why])) := (cellOf hb6 Hlt.out).trans c3
    refine hK.out _ _ ⟨d1, d3⟩ (fun hHeld => ?_)
    clear hK K
    try simp only [Act.put, qB, qC, qD, qE, qF, qG]
    refine wpAnyH_take (i := 10) (v := .slice none 0 0) rfl (by kernel_rfl) (by kernel_rfl) (by kernel_rfl) (fun _ _ _ h => h) (.inl ⟨by rfl, fun V hV => by obtain ⟨c0, c1⟩ := hV; go_simp⟩) hHeld ?_
    try simp only [Act.put, qB, qC, qD, qE, qF, qG]
    refine wpAnyH_take (i := 11) (v := .int .i64 (l : Int)) rfl (by kernel_rfl) (by kernel_rfl) (by kernel_rfl) (fun _ _ _ h => h) (.inl ⟨by rfl, fun V hV => by obtain ⟨c0, c1⟩ := hV; go_simp⟩) hHeld ?_
    try simp only [Act.put, qB, qC, qD, qE, qF, qG]
    refine wpAnyH_take (i := 12) (v := .int .i64 why) rfl (by kernel_rfl) (by kernel_rfl) (by kernel_rfl) (fun _ _ _ h => h) (.inl ⟨by rfl, fun V hV => by obtain ⟨c0, c1⟩ := hV; go_simp⟩) hHeld ?_
    try simp only [Act.put, qB, qC, qD, qE, qF, qG]
    refine wpAnyH_done (by kernel_rfl) ?_ _
    refine NoPanic.normal ?_

    go_wp2_with fail
    go_ret3
    refine ⟨none, 0, 0, ?_, Nat.le_refl _, ?_, ?_⟩
    · rw [Hr.out]; rfl
    · rw [Hr.out]; exact Recs.nil _ _ _
    · exact (Hbw.out.drew).trans (hb6.mono Hbw.out.size)
end Go.Vir

