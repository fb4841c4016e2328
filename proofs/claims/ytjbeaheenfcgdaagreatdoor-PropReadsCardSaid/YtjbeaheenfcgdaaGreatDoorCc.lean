/- Joined texts: SpB, Prp, Trn, Pev, PrA, MapI, Fd1, Rg1, Rg2, Fd2, Flt, Fd3. -/
import Derived.Test.YtjbeaheenfcgdaaGreatDoorCb
import Derived.Test.YtjbeaheenfcgdaaGreatDoorCa
import Derived.OwnWalkIn
import Derived.Deep.Cut
import Derived.BigQuiet
import Derived.Deep.QuietTactic
import Derived.Laws.Cover3
import Derived.WalkLawsBesides
/- span: the first range of which something is so; ranges that lap. -/
namespace Go.Vir
open Go Go.RowKit Go.Proofs Go.Shelf
attribute [local go_sem] Oper.semAt_some

set_option maxHeartbeats 1000000 in
theorem span_lap (x y : Rg) (w : World) : Calls Tryz.prog 158 #[encR x, encR y] w fun e w' => e = .returned (.bool (lapR x y)) ∧ Below w.heap.size w w' := by
  obtain ⟨f, t, v⟩ := x
  obtain ⟨f2, t2, v2⟩ := y
  unfold lapR
  simp only [encR]
  by_cases h1 : f ≤ t2
  · have h2 : decide (f ≤ t2) = true := decide_eq_true h1
    go_enter Tryz.func158, Tryz.ntmps158
    go_wp2_with fail
    go_ret
    exact ⟨ret_bool (by simp [h1]), by go_grown⟩
  · have h2 : decide (f ≤ t2) = false := decide_eq_false h1
    go_enter Tryz.func158, Tryz.ntmps158
    go_wp2_with fail
    go_ret
    exact ⟨ret_bool (by simp), by go_grown⟩

theorem sorted21 (x y : Rg) (b : Nat) (w : World) (hb : w.heap[b]? = some (.cells #[.int .i64 x.f, .int .i64 x.t, .int .i64 x.v] 65 (0, 0))) :
    Calls Tryz.prog 157 #[encR y, .pointer (some ⟨b, 0, none⟩)] w fun e w' => e = .returned (.bool (lapR x y)) ∧ Below w.heap.size w w' := by
  have hl := fun W => span_lap x y W
  have u0 : w.cell? ⟨b, 0, none⟩ = some (.int .i64 x.f) := cell_blk hb 0
  have u1 : w.cell? ⟨b, 1, none⟩ = some (.int .i64 x.t) := cell_blk hb 1
  have u2 : w.cell? ⟨b, 2, none⟩ = some (.int .i64 x.v) := cell_blk hb 2
  have hbl : b < w.heap.size := (Array.getElem?_eq_some_iff.1 hb).1
  generalize lapR x y = V at *
  obtain ⟨f, t, v⟩ := x
  obtain ⟨f2, t2, v2⟩ := y
  simp only [encR] at *
  have Hl := Lib.hid hl
  clear hl hb
  go_enter Tryz.func157, Tryz.ntmps157
  go_wp2_with fail
  refine (Hl.out _).mono ?_
  rintro e w1 ⟨rfl, hb1⟩
  go_wp2_with fail
  go_ret
  exact ⟨rfl, Below.trans (by go_grown) (hb1.mono (by simp))⟩

theorem sorted1 (i : Nat) (x : Rg) (w : World) (h : oneR x = true) :
    Calls Tryz.prog 155 #[.int .i64 (i : Int), encR x] w fun e w' => e = .returned (.bool false) ∧ Below w.heap.size w w' := by
  have hl := fun W => span_isOne x W h
  obtain ⟨f, t, v⟩ := x
  simp only [encR] at *
  have Hl := Lib.hid hl
  clear hl h
  go_enter Tryz.func155, Tryz.ntmps155
  go_wp2_with fail
  refine (Hl.out _).mono ?_
  rintro e w1 ⟨rfl, hb1⟩
  go_wp2_with fail
  go_ret
  exact ⟨rfl, Below.trans (by go_grown) (hb1.mono (by simp))⟩

set_option maxHeartbeats 1000000 in
theorem sorted2 (i : Nat) (x : Rg) (A : Option Addr) (n c : Nat) (l : List Rg) (b : Nat) (w : World) (hx : Rgs w w.heap.size A n l) (hn : n ≤ 1000000) (hc : n ≤ c) (hi : i < n) (hb : w.cell? ⟨b, 0, none⟩ = some (.slice A n c)) (hbl : b < w.heap.size) (hno : (l.take i).any (lapR x) = false) :
    Calls Tryz.prog 156 #[.int .i64 (i : Int), encR x, .pointer (some ⟨b, 0, none⟩)] w fun e w' => e = .returned (.bool false) ∧ Below w.heap.size w w' := by
  have hw : Below w.heap.size w (w.alloc (.cells #[.int .i64 x.f, .int .i64 x.t, .int .i64 x.v] 65)) := by go_grown
  have hcon := containsFunc_rg (p := lapR x) (lb := #[.pointer (some ⟨w.heap.size, 0, none⟩)]) A i i (l.take i) (w.alloc (.cells #[.int .i64 x.f, .int .i64 x.t, .int .i64 x.v] 65)) (enters_of Tryz.func157 (by kernel_rfl) rfl)
    (((hx.take i (by omega)).below hw).more hw.size) (fun y W hW => sorted21 x y w.heap.size W ((hW.block _ (by simp)).trans (heap_new rfl))) (by omega)
  rw [hno] at hcon
  obtain ⟨f, t, v⟩ := x
  simp only [encR] at *
  have h1 : decide ((c : Int) < (i : Int)) = false := decide_eq_false (by omega)
  have h2 : i ≤ c := by omega
  have Hcon := Lib.hid hcon
  clear hcon hw hno hx
  go_enter Tryz.func156, Tryz.ntmps156
  go_wp2_with fail
  refine Hcon.out.mono ?_
  rintro e w1 ⟨rfl, hb1⟩
  go_wp2_with fail
  go_ret
  exact ⟨rfl, Below.trans (by go_grown) (hb1.mono (by simp))⟩

set_option maxHeartbeats 1000000 in
theorem span_first {g : Nat} {lb : Array Value} (A : Option Addr) (n c : Nat) (l : List Rg) (w : World) (eg : ∀ args w, (callFunc g args).run Tryz.prog w = .ok (.enter g args) w) (hx : Rgs w w.heap.size A n l) (hn : n ≤ 1000000)
    (hs : ∀ (i : Nat) (h : i < l.length) (W : World), Below w.heap.size w W → Calls Tryz.prog g (#[.int .i64 (i : Int), encR l[i]] ++ lb) W fun e W' => e = .returned (.bool false) ∧ Below W.heap.size W W') :
    Calls Tryz.prog 154 #[.func (.func g) #[] lb, .slice A n c] w fun e w' => e = .returned (.int .i64 (-1)) ∧ Below w.heap.size w w' := by
  have hlen := hx.len
  have Hlen := Lib.hid hlen
  have Hs := Lib.hid hs
  clear hlen hs
  go_enter Tryz.func154, Tryz.ntmps154
  go_wp2_with fail
  go_loopw [5, 6, 9] (fun _ _ i wr => ∃ (k : Nat), k ≤ n ∧ i = .int .i64 (k : Int) ∧ Below w.heap.size w wr) (fun _ _ i _ => n - (RowKit.intOf i).toNat)
  case atStart => exact ⟨0, Nat.zero_le _, rfl, Below.refl _ _⟩
  case round =>
    obtain ⟨k, hk, rfl, hbr⟩ := hrel
    rcases Nat.lt_or_ge k n with hlt | hge
    · obtain ⟨b, o, rfl, hb, hc⟩ := hx.at_ (by omega)
      have hkl : k < l.length := by rw [Hlen.out]; exact hlt
      have u0 := (cellOf hbr hb).trans (hc k hkl).1
      have u1 := (cellOf hbr hb).trans (hc k hkl).2.1
      have u2 := (cellOf hbr hb).trans (hc k hkl).2.2
      have h1 := Hs.out k hkl (wr.alloc (.cells #[.int .i64 l[k].f, .int .i64 l[k].t, .int .i64 l[k].v] 65)) (hbr.alloc hbr.size _)
      generalize l[k] = x at *
      obtain ⟨x1, x2, x3⟩ := x
      simp only [encR] at u0 u1 u2 h1
      have H1 := Lib.hid h1
      clear h1 hc
      go_wp2_with fail
      refine H1.out.mono ?_
      rintro e w5 ⟨rfl, hb5⟩
      have hb6 : Below w.heap.size w w5 := (hbr.alloc hbr.size _).trans (hb5.mono (by simp; have := hbr.size; omega))
      go_wp2_with fail
      go_roundw
      case rel => exact ⟨k + 1, by omega, by go_num, hb6⟩
      case measure => simp [RowKit.intOf]; omega
    · go_wp2_with fail
      go_ret
      exact ⟨rfl, hbr⟩
end Go.Vir


/- What files say of numbers (chapter 5), as plain Lean, and what follows. No program. -/
namespace Go.Vir
open Go Go.Lib

/-- What a record's field says. -/
def saysB (ss : List (List UInt8)) (k : Nat) (x : RecV) : Option Int := x.fs[k]?.bind fun s => valB s ss 0
def rgOf (x : RecV) (v : Int) : Rg := { f := x.f, t := x.t, v := v }
/-- P5.2: what records say, one by one. -/
def readsB (ss : List (List UInt8)) (k : Nat) (loose : Bool) : List RecV → List Rg → List Rg ⊕ (Int × Int)
  | [], out => .inl out
  | x :: l, out => match saysB ss k x with
    | none => if loose then readsB ss k loose l out else .inr (x.line, 40)
    | some v => if out.any (lapR (rgOf x v)) then .inr (x.line, 30) else readsB ss k loose l (out ++ [rgOf x v])
theorem readsB_cons (ss : List (List UInt8)) (k : Nat) (loose : Bool) (x : RecV) (l : List RecV) (out : List Rg) : readsB ss k loose (x :: l) out = match saysB ss k x with
    | none => if loose then readsB ss k loose l out else .inr (x.line, 40)
    | some v => if out.any (lapR (rgOf x v)) then .inr (x.line, 30) else readsB ss k loose l (out ++ [rgOf x v]) := by rw [readsB]
/-- P5.2: Read. -/
def readB (file : List UInt8) (ss : List (List UInt8)) (k : Int) (loose : Bool) : List Rg × Int × Int :=
  if namesB ss = true ∧ 0 ≤ k ∧ k < 20 then
    if (fileN file).2.2 = 0 then match readsB ss k.toNat loose (fileN file).1 [] with
      | .inl out => (tightR (sortR out), 0, 0)
      | .inr e => ([], e.1, e.2)
    else ([], (fileN file).2.1, (fileN file).2.2)
  else ([], 0, 2)
/-- P5.2: Of. -/
def ofB (file : List UInt8) (ss : List (List UInt8)) (r : Int) : List UInt8 × Int :=
  if (readB file ss 0 false).2.2 = 0 then (ss.getD ((findR (readB file ss 0 false).1 r).getD 0).toNat [], 0) else ([], (readB file ss 0 false).2.2)

theorem valB_bound {s : List UInt8} {ss : List (List UInt8)} {v : Int} (h : valB s ss 0 = some v) : 0 ≤ v ∧ v < ss.length := by
  obtain ⟨j, h1, h2⟩ := valB_range s ss 0 v h
  omega
theorem says_bound {ss : List (List UInt8)} {k : Nat} {x : RecV} {v : Int} (h : saysB ss k x = some v) : 0 ≤ v ∧ v < ss.length := by
  unfold saysB at h
  rcases hk : x.fs[k]? with _ | s
  · rw [hk] at h; cases h
  · rw [hk] at h; exact valB_bound h

/-- What is read, as it stands. -/
structure OutOk (n : Nat) (out : List Rg) : Prop where
  one : ∀ x ∈ out, oneR x = true
  apart : apartR out
  val : ∀ x ∈ out, 0 ≤ x.v ∧ x.v < n
theorem OutOk.nil (n : Nat) : OutOk n [] := ⟨by simp, List.Pairwise.nil, by simp⟩
theorem OutOk.snoc {n : Nat} {out : List Rg} {x : Rg} (h : OutOk n out) (h1 : oneR x = true) (h2 : out.any (lapR x) = false) (h3 : 0 ≤ x.v ∧ x.v < n) : OutOk n (out ++ [x]) := by
  refine ⟨fun y hy => ?_, ?_, fun y hy => ?_⟩
  · rcases List.mem_append.1 hy with hy | hy
    · exact h.one y hy
    · simp only [List.mem_singleton] at hy; subst hy; exact h1
  · refine List.pairwise_append.2 ⟨h.apart, by simp, fun y hy z hz => ?_⟩
    simp only [List.mem_singleton] at hz
    subst hz
    have := List.any_eq_false.1 h2 y hy
    simpa using this
  · rcases List.mem_append.1 hy with hy | hy
    · exact h.val y hy
    · simp only [List.mem_singleton] at hy; subst hy; exact h3
theorem rgOf_one {ss : List (List UInt8)} {k : Nat} {x : RecV} {v : Int} (hx : recOk x) (h : saysB ss k x = some v) (hn : ss.length ≤ 32) : oneR (rgOf x v) = true ∧ 0 ≤ (rgOf x v).v ∧ (rgOf x v).v < ss.length := by
  have hb := says_bound h
  exact ⟨oneR_iff.2 ⟨hx.1, hx.2.1, hx.2.2.1, hb.1, by show v ≤ 31; omega⟩, hb⟩
theorem reads_ok {ss : List (List UInt8)} {k : Nat} {loose : Bool} (hn : ss.length ≤ 32) : ∀ {l : List RecV} {out out' : List Rg}, (∀ x ∈ l, recOk x) → OutOk ss.length out → readsB ss k loose l out = .inl out' → OutOk ss.length out' ∧ out'.length ≤ out.length + l.length ∧
    ∀ y, y ∈ out' ↔ y ∈ out ∨ ∃ x ∈ l, ∃ v, saysB ss k x = some v ∧ y = rgOf x v
  | [], out, out', _, ho, h => by
    cases h
    exact ⟨ho, by simp, fun y => by simp⟩
  | x :: l, out, out', hl, ho, h => by
    unfold readsB at h
    have hl2 : ∀ z ∈ l, recOk z := fun z hz => hl z (List.mem_cons_of_mem _ hz)
    rcases hs : saysB ss k x with _ | v
    · rw [hs] at h
      simp only at h
      split at h
      · obtain ⟨h1, h2, h3⟩ := reads_ok hn hl2 ho h
        refine ⟨h1, by simp; omega, fun y => ?_⟩
        rw [h3]
        constructor
        · rintro (h | ⟨z, hz, h⟩)
          · exact .inl h
          · exact .inr ⟨z, List.mem_cons_of_mem _ hz, h⟩
        · rintro (h | ⟨z, hz, v, h4, h5⟩)
          · exact .inl h
          · rcases List.mem_cons.1 hz with e | hz
            · subst e; rw [hs] at h4; cases h4
            · exact .inr ⟨z, hz, v, h4, h5⟩
      · cases h
    · rw [hs] at h
      simp only at h
      split at h
      · cases h
      · rename_i hlap
        obtain ⟨o1, o2⟩ := rgOf_one (hl x (List.mem_cons_self ..)) hs hn
        obtain ⟨h1, h2, h3⟩ := reads_ok hn hl2 (ho.snoc o1 (by simpa using hlap) o2) h
        refine ⟨h1, by simp at h2 ⊢; omega, fun y => ?_⟩
        rw [h3, List.mem_append, List.mem_singleton]
        constructor
        · rintro ((h | h) | ⟨z, hz, h⟩)
          · exact .inl h
          · exact .inr ⟨x, List.mem_cons_self .., v, hs, h⟩
          · exact .inr ⟨z, List.mem_cons_of_mem _ hz, h⟩
        · rintro (h | ⟨z, hz, v', h4, h5⟩)
          · exact .inl (.inl h)
          · rcases List.mem_cons.1 hz with e | hz
            · subst e; rw [hs] at h4; cases h4; exact .inl (.inr h5)
            · exact .inr ⟨z, hz, v', h4, h5⟩
theorem names_len {ss : List (List UInt8)} (h : namesB ss = true) : 1 ≤ ss.length ∧ ss.length ≤ 32 ∧ ss.Nodup := by
  unfold namesB at h
  simp only [Bool.and_eq_true, decide_eq_true_eq] at h
  exact ⟨h.1.1.1, h.1.1.2, h.1.2⟩
/-- What is read, if all goes well. -/
theorem read_ok {file : List UInt8} {ss : List (List UInt8)} {k : Int} {loose : Bool} (h : (readB file ss k loose).2.2 = 0) :
    namesB ss = true ∧ (0 ≤ k ∧ k < 20) ∧ (fileN file).2.2 = 0 ∧ ∃ out, readsB ss k.toNat loose (fileN file).1 [] = .inl out ∧ (readB file ss k loose) = (tightR (sortR out), 0, 0) ∧ OutOk ss.length out ∧ out.length ≤ 300 ∧
      ∀ y, y ∈ out ↔ ∃ x ∈ (fileN file).1, ∃ v, saysB ss k.toNat x = some v ∧ y = rgOf x v := by
  unfold readB at h ⊢
  split at h
  · rename_i hc
    split at h
    · rename_i hf
      rcases hr : readsB ss k.toNat loose (fileN file).1 [] with out | e
      · obtain ⟨h1, h2, h3⟩ := reads_ok (names_len hc.1).2.1 (fileN_ok file).1 (OutOk.nil _) hr
        refine ⟨hc.1, hc.2, hf, out, rfl, by rw [if_pos hc, if_pos hf], h1, by have := (fileN_ok file).2; simp at h2; omega, fun y => by rw [h3]; simp⟩
      · rw [hr] at h
        have h0 : e.2 = 0 := h
        have : ∀ {l : List RecV} {out : List Rg} {e : Int × Int}, readsB ss k.toNat loose l out = .inr e → e.2 ≠ 0 := by
          intro l
          induction l with
          | nil => intro out e h; cases h
          | cons x l ih =>
            intro out e h
            unfold readsB at h
            split at h
            · split at h
              · exact ih h
              · cases h; simp
            · split at h
              · cases h; simp
              · exact ih h
        exact absurd h0 (this hr)
    · rename_i hf; exact absurd h hf
  · cases h
theorem read_bad {file : List UInt8} {ss : List (List UInt8)} {k : Int} {loose : Bool} (h : (readB file ss k loose).2.2 ≠ 0) : (readB file ss k loose).1 = [] := by
  unfold readB at h ⊢
  split
  · rename_i hc
    rw [if_pos hc] at h
    split
    · rename_i hf
      rw [if_pos hf] at h
      split
      · rename_i hr; rw [hr] at h; exact absurd rfl h
      · rfl
    · rfl
  · rfl
/-- The map that is read. -/
theorem read_map {file : List UInt8} {ss : List (List UInt8)} {k : Int} {loose : Bool} (h : (readB file ss k loose).2.2 = 0) :
    riseR (-1) (readB file ss k loose).1 = true ∧ (readB file ss k loose).1.length ≤ 300 ∧ (∀ x ∈ (readB file ss k loose).1, 0 ≤ x.v ∧ x.v < ss.length) ∧
    ∀ r v, findR (readB file ss k loose).1 r = some v ↔ ∃ x ∈ (fileN file).1, saysB ss k.toNat x = some v ∧ x.f ≤ r ∧ r ≤ x.t := by
  obtain ⟨hn, hk, hf, out, hr, he, ho, hl, hm⟩ := read_ok h
  rw [he]
  simp only
  have hs := sort_rise out ho.apart ho.one
  obtain ⟨h1, h2, h3⟩ := tight_rise hs
  have hlen := sort_len out
  have hfind : ∀ r v, findR (tightR (sortR out)) r = some v ↔ ∃ x ∈ (fileN file).1, saysB ss k.toNat x = some v ∧ x.f ≤ r ∧ r ≤ x.t := fun r v => by
    rw [h3, sort_find ho.apart ho.one]
    constructor
    · rintro ⟨y, hy, a, b, rfl⟩
      obtain ⟨x, hx, v, hv, rfl⟩ := (hm y).1 hy
      exact ⟨x, hx, hv, a, b⟩
    · rintro ⟨x, hx, hv, a, b⟩
      exact ⟨rgOf x v, (hm _).2 ⟨x, hx, v, hv, rfl⟩, a, b, rfl⟩
  refine ⟨h1, by omega, fun x hx => ?_, hfind⟩
  have hox := oneR_iff.1 (rise_one h1 x hx).1
  have hx2 : findR (tightR (sortR out)) x.f = some x.v := (find_rise h1).2 ⟨x, hx, by omega, by omega, rfl⟩
  obtain ⟨y, _, hv, _⟩ := (hfind _ _).1 hx2
  exact says_bound hv

theorem recsN_line : ∀ (ts : List (List UInt8)) (k : Nat) (acc : List RecV), (∀ x ∈ acc, 0 < x.line) → ∀ x ∈ (recsN ts k acc).1, 0 < x.line
  | [], _, acc, h => h
  | t :: ts, k, acc, h => by
    rw [recsN_cons]
    split
    · exact recsN_line ts _ acc h
    · simp
    · split
      · simp
      · refine recsN_line ts _ _ (fun x hx => ?_)
        rcases List.mem_append.1 hx with hx | hx
        · exact h x hx
        · simp only [List.mem_singleton] at hx
          subst hx
          show (0 : Int) < (k : Int) + 1
          omega
theorem fileN_line (s : List UInt8) : ∀ x ∈ (fileN s).1, 0 < x.line := recsN_line _ _ _ (by simp)
theorem lineN_why {s : List UInt8} {w : Int} (h : lineN s = .bad w) : w = 21 ∨ w = 22 ∨ w = 23 := by
  unfold lineN at h
  split at h
  · cases h
  · split at h
    · cases h; exact .inl rfl
    · split at h
      · cases h; exact .inr (.inl rfl)
      · split at h
        · cases h; exact .inr (.inr rfl)
        · cases h
/-- PropNamed: the name that is told is the value's. -/
theorem valB_nodup : ∀ {ss : List (List UInt8)} {i j : Nat} (h : j < ss.length), ss.Nodup → valB ss[j] ss i = some ((i + j : Nat) : Int)
  | s :: t, i, 0, _, _ => by simp [valB]
  | s :: t, i, j + 1, h, hn => by
    have hn' := List.nodup_cons.1 hn
    have hj : j < t.length := by simpa using h
    have hne : s ≠ t[j] := fun e => hn'.1 (e ▸ List.getElem_mem hj)
    simp only [List.getElem_cons_succ]
    unfold valB
    rw [if_neg hne, valB_nodup (i := i + 1) hj hn'.2]
    congr 2; omega
theorem of_named {file : List UInt8} {ss : List (List UInt8)} {r : Int} (h : (readB file ss 0 false).2.2 = 0) :
    (0 ≤ (findR (readB file ss 0 false).1 r).getD 0 ∧ ((findR (readB file ss 0 false).1 r).getD 0) < ss.length) ∧ valB (ofB file ss r).1 ss 0 = some ((findR (readB file ss 0 false).1 r).getD 0) := by
  obtain ⟨hn, _⟩ := read_ok h
  obtain ⟨h1, _, h3, _⟩ := read_map h
  have hl := names_len hn
  have hb : 0 ≤ (findR (readB file ss 0 false).1 r).getD 0 ∧ ((findR (readB file ss 0 false).1 r).getD 0) < ss.length := by
    rcases hf : findR (readB file ss 0 false).1 r with _ | v
    · simp; omega
    · obtain ⟨x, hx, _, _, rfl⟩ := find_mem hf
      exact h3 x hx
  refine ⟨hb, ?_⟩
  unfold ofB
  rw [if_pos h]
  simp only
  generalize (findR (readB file ss 0 false).1 r).getD 0 = v at *
  have hv : v.toNat < ss.length := by omega
  rw [List.getD_eq_getElem?_getD, List.getElem?_eq_getElem hv, Option.getD_some, valB_nodup hv hl.2.2]
  congr 1; omega

end Go.Vir


/- The numbers at which a map says something else: their pieces are the map's ranges. No program. -/
namespace Go.Vir
open Go

/-- Each number, and the last one ahead of the next. -/
def segL : List Int → List (Int × Int)
  | [] => []
  | n :: t => (n, (t.head?.map (· - 1)).getD 1114111) :: segL t
/-- The numbers at which something turns, from p on. -/
def brkX : Int → List Rg → List Int
  | p, [] => if p = 1114112 then [] else [p]
  | p, x :: l => if p = x.f then p :: brkX (x.t + 1) l else p :: x.f :: brkX (x.t + 1) l
theorem brk_cons (p : Int) (x : Rg) (l : List Rg) : brkX p (x :: l) = if p = x.f then p :: brkX (x.t + 1) l else p :: x.f :: brkX (x.t + 1) l := by rw [brkX]
/-- What is said of pieces. -/
def saidL (L : List Rg) (l : List (Int × Int)) : List Rg := l.filterMap fun p => (findR L p.1).map fun v => { f := p.1, t := p.2, v := v }

theorem rise_ints_ext : ∀ {l m : List Int}, l.Pairwise (· < ·) → m.Pairwise (· < ·) → (∀ x, x ∈ l ↔ x ∈ m) → l = m
  | [], [], _, _, _ => rfl
  | [], y :: m, _, _, h => by have := (h y).2 (List.mem_cons_self ..); cases this
  | x :: l, [], _, _, h => by have := (h x).1 (List.mem_cons_self ..); cases this
  | x :: l, y :: m, hl, hm, h => by
    obtain ⟨hl1, hl2⟩ := List.pairwise_cons.1 hl
    obtain ⟨hm1, hm2⟩ := List.pairwise_cons.1 hm
    have hxy : x = y := by
      rcases List.mem_cons.1 ((h x).1 (List.mem_cons_self ..)) with e | hx
      · exact e
      · rcases List.mem_cons.1 ((h y).2 (List.mem_cons_self ..)) with e | hy
        · exact e.symm
        · have h1 := hm1 x hx
          have h2 := hl1 y hy
          omega
    subst hxy
    have : l = m := rise_ints_ext hl2 hm2 (fun z => ?_)
    · rw [this]
    · have hz := h z
      constructor
      · intro hzl
        rcases List.mem_cons.1 (hz.1 (List.mem_cons_of_mem _ hzl)) with e | e
        · have := hl1 z hzl; omega
        · exact e
      · intro hzm
        rcases List.mem_cons.1 (hz.2 (List.mem_cons_of_mem _ hzm)) with e | e
        · have := hm1 z hzm; omega
        · exact e

theorem brk_mem : ∀ {l : List Rg} {p : Int}, riseR (p - 1) l = true → ∀ y, y ∈ brkX p l ↔ y ≠ 1114112 ∧ (y = p ∨ ∃ x ∈ l, y = x.f ∨ y = x.t + 1)
  | [], p, _, y => by
    unfold brkX
    split
    · rename_i h
      constructor
      · intro hy; cases hy
      · rintro ⟨h1, h2 | ⟨x, hx, _⟩⟩
        · omega
        · cases hx
    · rename_i h
      simp only [List.mem_singleton, List.not_mem_nil, false_and, exists_false, or_false]
      constructor
      · rintro rfl; exact ⟨h, rfl⟩
      · exact fun hh => hh.2
  | x :: l, p, h, y => by
    simp only [riseR, Bool.and_eq_true, decide_eq_true_eq] at h
    have ho := oneR_iff.1 h.1
    have ih := brk_mem (l := l) (p := x.t + 1) (by rw [show x.t + 1 - 1 = x.t by omega]; exact h.2.2) y
    have hgo : y ∈ brkX p (x :: l) ↔ y = p ∨ y = x.f ∨ y ∈ brkX (x.t + 1) l := by
      rw [brk_cons]
      split
      · rename_i e
        rw [List.mem_cons]
        constructor
        · rintro (h | h)
          · exact .inl h
          · exact .inr (.inr h)
        · rintro (h | h | h)
          · exact .inl h
          · exact .inl (by rw [h, e])
          · exact .inr h
      · rw [List.mem_cons, List.mem_cons]
    rw [hgo, ih]
    constructor
    · rintro (rfl | rfl | ⟨h1, h2⟩)
      · exact ⟨by omega, .inl rfl⟩
      · exact ⟨by omega, .inr ⟨x, List.mem_cons_self .., .inl rfl⟩⟩
      · refine ⟨h1, ?_⟩
        rcases h2 with rfl | ⟨z, hz, hh⟩
        · exact .inr ⟨x, List.mem_cons_self .., .inr rfl⟩
        · exact .inr ⟨z, List.mem_cons_of_mem _ hz, hh⟩
    · rintro ⟨h1, rfl | ⟨z, hz, hh⟩⟩
      · exact .inl rfl
      · rcases List.mem_cons.1 hz with rfl | hz
        · rcases hh with rfl | rfl
          · exact .inr (.inl rfl)
          · exact .inr (.inr ⟨h1, .inl rfl⟩)
        · exact .inr (.inr ⟨h1, .inr ⟨z, hz, hh⟩⟩)
theorem brk_ge : ∀ {l : List Rg} {p : Int}, riseR (p - 1) l = true → ∀ y ∈ brkX p l, p ≤ y := by
  intro l p h y hy
  obtain ⟨_, h2⟩ := (brk_mem h y).1 hy
  rcases h2 with rfl | ⟨x, hx, hh⟩
  · omega
  · have h1 := rise_one h x hx
    have h3 := oneR_iff.1 h1.1
    rcases hh with rfl | rfl <;> omega
theorem brk_rise : ∀ {l : List Rg} {p : Int}, riseR (p - 1) l = true → (brkX p l).Pairwise (· < ·)
  | [], p, _ => by unfold brkX; split <;> simp
  | x :: l, p, h => by
    simp only [riseR, Bool.and_eq_true, decide_eq_true_eq] at h
    have ho := oneR_iff.1 h.1
    have hr : riseR (x.t + 1 - 1) l = true := by rw [show x.t + 1 - 1 = x.t by omega]; exact h.2.2
    have ih := brk_rise hr
    have hge := brk_ge hr
    rw [brk_cons]
    split
    · rename_i e
      exact List.pairwise_cons.2 ⟨fun y hy => by have := hge y hy; omega, ih⟩
    · refine List.pairwise_cons.2 ⟨fun y hy => ?_, List.pairwise_cons.2 ⟨fun y hy => by have := hge y hy; omega, ih⟩⟩
      rcases List.mem_cons.1 hy with rfl | hy
      · omega
      · have := hge y hy; omega
theorem brk_head {l : List Rg} {p : Int} (h : riseR (p - 1) l = true) : ((brkX p l).head?.map (· - 1)).getD 1114111 = p - 1 := by
  cases l with
  | nil =>
    unfold brkX
    split
    · rename_i e; subst e; rfl
    · rfl
  | cons x l => rw [brk_cons]; split <;> rfl
theorem seg_said (L : List Rg) (hL : riseR (-1) L = true) : ∀ (l dn : List Rg) (p : Int), L = dn ++ l → (∀ x ∈ dn, x.t < p) → riseR (p - 1) l = true → saidL L (segL (brkX p l)) = l
  | [], dn, p, e, hd, _ => by
    unfold brkX
    split
    · rfl
    · have : findR L p = none := find_none.2 fun x hx => by
        rw [e, List.append_nil] at hx
        have := hd x hx; omega
      simp [segL, saidL, this]
  | x :: l, dn, p, e, hd, h => by
    simp only [riseR, Bool.and_eq_true, decide_eq_true_eq] at h
    have ho := oneR_iff.1 h.1
    have hr : riseR (x.t + 1 - 1) l = true := by rw [show x.t + 1 - 1 = x.t by omega]; exact h.2.2
    have ih := seg_said L hL l (dn ++ [x]) (x.t + 1) (by rw [e]; simp) (fun y hy => by
      rcases List.mem_append.1 hy with hy | hy
      · have := hd y hy; omega
      · simp only [List.mem_singleton] at hy; subst hy; omega) hr
    have hh := brk_head hr
    have hx : findR L x.f = some x.v := (find_rise hL).2 ⟨x, by rw [e]; simp, by omega, by omega, rfl⟩
    have hone : saidL L (segL (x.f :: brkX (x.t + 1) l)) = x :: l := by
      unfold segL
      rw [hh]
      unfold saidL at ih ⊢
      rw [List.filterMap_cons]
      simp only [hx, Option.map_some]
      rw [ih]
      have : ({ f := x.f, t := x.t + 1 - 1, v := x.v } : Rg) = x := by
        rw [show x.t + 1 - 1 = x.t by omega]
      rw [this]
    rw [brk_cons]
    split
    · rename_i e2; rw [e2]; exact hone
    · rename_i e2
      have hn : findR L p = none := find_none.2 fun y hy => by
        rw [e] at hy
        rcases List.mem_append.1 hy with hy | hy
        · have := hd y hy; omega
        · rcases List.mem_cons.1 hy with rfl | hy
          · omega
          · have := (rise_one h.2.2 y hy).2; omega
      rw [segL]
      unfold saidL at hone ⊢
      rw [List.filterMap_cons]
      simp only [hn, Option.map_none]
      exact hone
/-- The pieces of a map's turns, of which something is said, are its ranges. -/
theorem turns_said {L : List Rg} (h : riseR (-1) L = true) {ks : List Int} (hs : ks.Pairwise (· < ·)) (hm : ∀ y, y ∈ ks ↔ y ≠ 1114112 ∧ (y = 0 ∨ ∃ x ∈ L, y = x.f ∨ y = x.t + 1)) : saidL L (segL ks) = L := by
  have hr : riseR (0 - 1) L = true := h
  have : ks = brkX 0 L := rise_ints_ext hs (brk_rise hr) (fun y => (hm y).trans (brk_mem hr y).symm)
  rw [this]
  exact seg_said L h L [] 0 rfl (by simp) hr
end Go.Vir


/- What files say of numbers, record by record. No program. -/
namespace Go.Vir
open Go Go.Lib

/-- The records that say something, or are wrong. -/
def evP (ss : List (List UInt8)) (k : Nat) (loose : Bool) : List RecV → List (RecV × Option Int)
  | [] => []
  | x :: l => match saysB ss k x with
    | none => if loose then evP ss k loose l else (x, none) :: evP ss k loose l
    | some v => (x, some v) :: evP ss k loose l
theorem evP_cons (ss : List (List UInt8)) (k : Nat) (loose : Bool) (x : RecV) (l : List RecV) : evP ss k loose (x :: l) = match saysB ss k x with
    | none => if loose then evP ss k loose l else (x, none) :: evP ss k loose l
    | some v => (x, some v) :: evP ss k loose l := by rw [evP]
def readsE : List (RecV × Option Int) → List Rg → List Rg ⊕ (Int × Int)
  | [], out => .inl out
  | (x, none) :: _, _ => .inr (x.line, 40)
  | (x, some v) :: es, out => if out.any (lapR (rgOf x v)) then .inr (x.line, 30) else readsE es (out ++ [rgOf x v])
theorem readsE_none (x : RecV) (es : List (RecV × Option Int)) (out : List Rg) : readsE ((x, none) :: es) out = .inr (x.line, 40) := by rw [readsE]
theorem readsE_some (x : RecV) (v : Int) (es : List (RecV × Option Int)) (out : List Rg) : readsE ((x, some v) :: es) out = if out.any (lapR (rgOf x v)) then .inr (x.line, 30) else readsE es (out ++ [rgOf x v]) := by rw [readsE]
theorem reads_evs (ss : List (List UInt8)) (k : Nat) (loose : Bool) : ∀ (l : List RecV) (out : List Rg), readsB ss k loose l out = readsE (evP ss k loose l) out
  | [], _ => rfl
  | x :: l, out => by
    rw [readsB_cons, evP_cons]
    cases saysB ss k x with
    | none =>
      cases loose with
      | true => simp only [if_true]; exact reads_evs ss k true l out
      | false => simp only [Bool.false_eq_true, if_false, readsE_none]
    | some v =>
      simp only [readsE_some]
      split
      · rfl
      · exact reads_evs ss k loose l _
theorem laps_eq {y : Rg} (hy : y.f ≤ y.t) (x : Rg) : (decide (x = y) || (decide (x.f ≤ y.t) && decide (y.f ≤ x.t))) = lapR y x := by
  rw [Bool.eq_iff_iff]
  simp only [Bool.or_eq_true, Bool.and_eq_true, decide_eq_true_eq, lapR_iff]
  constructor
  · rintro (rfl | ⟨h1, h2⟩)
    · exact ⟨hy, hy⟩
    · exact ⟨h2, h1⟩
  · rintro ⟨h1, h2⟩
    exact .inr ⟨h2, h1⟩
/-- What is read out of records, tight. -/
theorem tight_said {m : List Rg} (h : riseR (-1) m = true) {ks : List Int} (hs : ks.Pairwise (· < ·)) (hm : ∀ y, y ∈ ks ↔ y ≠ 1114112 ∧ (y = 0 ∨ ∃ x ∈ m, y = x.f ∨ y = x.t + 1)) : (saidL m (segL ks)).foldl addR [] = tightR m := by
  rw [turns_said h hs hm]; rfl
end Go.Vir


/- prop: a name's value; ranges that lap. -/
namespace Go.Vir
open Go Go.RowKit Go.Proofs Go.Shelf
attribute [local go_sem] Oper.semAt_some

theorem look_names {w : World} {r ck : Nat} {es : Array MapEntry} {ss : List (List UInt8)} (x : List UInt8) (hr : w.heap[r]? = some (.map es ck)) (ha : Asc es (kvOf ss 0)) :
    (Instr.lookup 70 (.map (some r)) (.string ⟨x.toArray⟩) true).run Tryz.prog w = .ok (.tuple #[.int .i64 ((valB x ss 0).getD 0), .bool (valB x ss 0).isSome]) w := by
  have h := run_look_kv (P := Tryz.prog) (k := x) true Tryz.underlying70 Tryz.underlying9 (Tryz.zeroValue3 w) hr ha
  have h1 := look_val x (kvOf ss 0) 0
  rw [valKV_kvOf] at h1
  have h2 : (lookKV x (kvOf ss 0) 0).isSome = (valB x ss 0).isSome := by rw [← h1]; cases lookKV x (kvOf ss 0) 0 <;> rfl
  rw [h1, h2] at h
  exact h

theorem names_value (A : Option Addr) (n c r ck : Nat) (es : Array MapEntry) (ss : List (List UInt8)) (x : List UInt8) (w : World) (hr : w.heap[r]? = some (.map es ck)) (ha : Asc es (kvOf ss 0)) :
    Calls Tryz.prog 53 #[.agg #[.slice A n c, .map (some r)], .string ⟨x.toArray⟩] w fun e w' => e = .returned (.tuple #[.int .i64 ((valB x ss 0).getD 0), .bool (valB x ss 0).isSome]) ∧ Below w.heap.size w w' := by
  have hrl : r < w.heap.size := (Array.getElem?_eq_some_iff.1 hr).1
  have hlk := look_names x (w := w.alloc (.cells #[.slice A n c, .map (some r)] 72)) ((heap_old hrl).trans hr) ha
  generalize (valB x ss 0).getD 0 = v at *
  generalize (valB x ss 0).isSome = o at *
  clear hr ha
  go_enter Tryz.func53, Tryz.ntmps53
  go_wp2_with fail
  go_ret2
  exact ⟨rfl, by go_grown⟩

theorem prop_Value (A : Option Addr) (n c : Nat) (ss : List (List UInt8)) (x : List UInt8) (w : World) (hn : n ≤ 1000000) (hz : Strs w w.heap.size A n ss) :
    Calls Tryz.prog 19 #[.slice A n c, .string ⟨x.toArray⟩] w fun e w' => e = .returned (.tuple #[.int .i64 ((valB x ss 0).getD 0), .bool (valB x ss 0).isSome]) ∧ Below w.heap.size w w' := by
  have h1 := prop_of A n c ss w hn hz
  have h2 := fun W r es ck (hr : W.heap[r]? = some (.map es ck)) ha => names_value A n c r ck es ss x W hr ha
  generalize (valB x ss 0).getD 0 = v at *
  generalize (valB x ss 0).isSome = o at *
  have H1 := Lib.hid h1
  have H2 := Lib.hid h2
  clear h1 h2 hz
  go_enter Tryz.func19, Tryz.ntmps19
  go_wp2_with fail
  refine H1.out.mono ?_
  rintro e w1 ⟨r, es, ck, rfl, hr, ha, hb1⟩
  have h3 := H2.out w1 r es ck hr ha
  have H3 := Lib.hid h3
  clear h3 hr ha
  go_wp2_with fail
  refine H3.out.mono ?_
  rintro e w2 ⟨rfl, hb2⟩
  go_wp2_with fail
  go_ret2
  exact ⟨rfl, hb1.trans (hb2.mono hb1.size)⟩

set_option maxHeartbeats 1000000 in
theorem laps1 (y x : Rg) (b : Nat) (w : World) (hy : y.f ≤ y.t) (hb : w.heap[b]? = some (.cells #[.int .i64 y.f, .int .i64 y.t, .int .i64 y.v] 65 (0, 0))) :
    Calls Tryz.prog 152 #[encR x, .pointer (some ⟨b, 0, none⟩)] w fun e w' => e = .returned (.bool (lapR y x)) ∧ Below w.heap.size w w' := by
  have hq := fun w => rg_eql x y w
  have u0 : w.cell? ⟨b, 0, none⟩ = some (.int .i64 y.f) := cell_blk hb 0
  have u1 : w.cell? ⟨b, 1, none⟩ = some (.int .i64 y.t) := cell_blk hb 1
  have u2 : w.cell? ⟨b, 2, none⟩ = some (.int .i64 y.v) := cell_blk hb 2
  have hbl : b < w.heap.size := (Array.getElem?_eq_some_iff.1 hb).1
  rw [← laps_eq hy x]
  obtain ⟨f, t, v⟩ := x
  obtain ⟨f2, t2, v2⟩ := y
  simp only [encR] at *
  clear hb hy
  rcases hE : decide (({ f := f, t := t, v := v } : Rg) = { f := f2, t := t2, v := v2 }) with _ | _
  · rw [hE] at hq
    by_cases h1 : f ≤ t2
    · have h2 : decide (f ≤ t2) = true := decide_eq_true h1
      clear hE
      go_enter Tryz.func152, Tryz.ntmps152
      go_wp2_with fail
      go_ret
      exact ⟨ret_bool (by simp [h1]), by go_grown⟩
    · have h2 : decide (f ≤ t2) = false := decide_eq_false h1
      clear hE
      go_enter Tryz.func152, Tryz.ntmps152
      go_wp2_with fail
      go_ret
      exact ⟨ret_bool (by simp), by go_grown⟩
  · rw [hE] at hq
    clear hE
    go_enter Tryz.func152, Tryz.ntmps152
    go_wp2_with fail
    go_ret
    exact ⟨ret_bool (by simp), by go_grown⟩

theorem reader_laps (R : Nat) (A : Option Addr) (n c : Nat) (l : List Rg) (y : Rg) (w : World) (hy : y.f ≤ y.t) (hR : w.cell? ⟨R, 4, none⟩ = some (.slice A n c)) (hRl : R < w.heap.size) (hx : Rgs w w.heap.size A n l) (hn : n ≤ 1000000) :
    Calls Tryz.prog 126 #[.pointer (some ⟨R, 0, none⟩), .agg #[.int .i64 y.f, .int .i64 y.t, .int .i64 y.v]] w fun e w' => e = .returned (.bool (l.any (lapR y))) ∧ Below w.heap.size w w' := by
  have hw : Below w.heap.size w (w.alloc (.cells #[.int .i64 y.f, .int .i64 y.t, .int .i64 y.v] 65)) := by go_grown
  have hcon := containsFunc_rg (p := lapR y) (lb := #[.pointer (some ⟨w.heap.size, 0, none⟩)]) A n c l (w.alloc (.cells #[.int .i64 y.f, .int .i64 y.t, .int .i64 y.v] 65)) (enters_of Tryz.func152 (by kernel_rfl) rfl)
    ((hx.below hw).more hw.size) (fun x W hW => laps1 y x w.heap.size W hy ((hW.block _ (by simp)).trans (heap_new rfl))) hn
  generalize l.any (lapR y) = V at *
  obtain ⟨f, t, v⟩ := y
  simp only at *
  have Hcon := Lib.hid hcon
  clear hcon hw hx hy
  go_enter Tryz.func126, Tryz.ntmps126
  go_wp2_with fail
  refine Hcon.out.mono ?_
  rintro e w1 ⟨rfl, hb1⟩
  go_wp2_with fail
  go_ret
  exact ⟨rfl, Below.trans (by go_grown) (hb1.mono (by simp))⟩
end Go.Vir


/- Maps from ints to ints, as lists of pairs. No program. -/
namespace Go.Vir
open Go Go.RowKit

abbrev KI := List (Int × Int)

def intV (kd : IntKind) (k : Int) : Value := .int kd k

/-- The entries are these pairs, in this order. -/
def AscI (kd : IntKind) (es : Array MapEntry) (kvs : KI) : Prop := es.toList.map (fun e => (e.key, e.val)) = kvs.map fun x => (intV kd x.1, Value.int .i64 x.2)

/-- Where a key stands, and its value. -/
def lookI (k : Int) : KI → Nat → Option (Nat × Int)
  | [], _ => none
  | x :: t, i => if x.1 = k then some (i, x.2) else lookI k t (i + 1)
/-- A key gets a value. -/
def updI (k : Int) (v : Int) : KI → KI
  | [] => [(k, v)]
  | x :: t => if x.1 = k then (k, v) :: t else x :: updI k v t

theorem findNow_ascI {kd : IntKind} (k : Int) : ∀ (l : List MapEntry) (kvs : KI) (i : Nat), l.map (fun e => (e.key, e.val)) = kvs.map (fun x => (intV kd x.1, Value.int .i64 x.2)) →
    Instr.findNow (.int kd) (intV kd k) l i = some ((lookI k kvs i).map fun x => (x.1, Value.int .i64 x.2))
  | [], [], _, _ => rfl
  | [], _ :: _, _, h => by simp at h
  | _ :: _, [], _, h => by simp at h
  | e :: l, x :: t, i, h => by
    simp only [List.map_cons, List.cons.injEq, Prod.mk.injEq] at h
    obtain ⟨⟨h1, h2⟩, h3⟩ := h
    unfold Instr.findNow
    rw [h1, h2]
    have hs : Instr.sameNow (.int kd) (intV kd k) (intV kd x.1) = some (decide (x.1 = k)) := by
      show (if kd = kd then some (k == x.1) else none) = _
      rw [if_pos rfl]
      congr 1
      rw [Bool.eq_iff_iff, beq_iff_eq, decide_eq_true_eq]
      exact eq_comm
    rw [hs]
    by_cases hk : x.1 = k
    · simp [hk, lookI]
    · simp only [hk, decide_false, lookI, if_false]
      exact findNow_ascI k l t (i + 1) h3

theorem lookI_some {k : Int} : ∀ {kvs : KI} {i j : Nat} {v : Int}, lookI k kvs i = some (j, v) → ∃ h : j - i < kvs.length, i ≤ j ∧ kvs[j - i] = (k, v)
  | [], _, _, _, h => by simp [lookI] at h
  | x :: t, i, j, v, h => by
    unfold lookI at h
    by_cases hk : x.1 = k
    · rw [if_pos hk] at h
      simp only [Option.some.injEq, Prod.mk.injEq] at h
      obtain ⟨rfl, rfl⟩ := h
      exact ⟨by simp, Nat.le_refl _, by simp [← hk]⟩
    · rw [if_neg hk] at h
      obtain ⟨h1, h2, h3⟩ := lookI_some h
      refine ⟨by simp; omega, by omega, ?_⟩
      have : j - i = (j - (i + 1)) + 1 := by omega
      simp only [this, List.getElem_cons_succ]
      exact h3

theorem updI_new {k : Int} {v : Int} : ∀ {kvs : KI} {i : Nat}, lookI k kvs i = none → updI k v kvs = kvs ++ [(k, v)]
  | [], _, _ => rfl
  | x :: t, i, h => by
    unfold lookI at h
    by_cases hk : x.1 = k
    · rw [if_pos hk] at h; cases h
    · rw [if_neg hk] at h
      rw [updI, if_neg hk, updI_new h]; rfl
theorem updI_at {k : Int} (v : Int) : ∀ {kvs : KI} {i j : Nat} {u : Int}, lookI k kvs i = some (j, u) → updI k v kvs = kvs.set (j - i) (k, v)
  | [], _, _, _, h => by simp [lookI] at h
  | x :: t, i, j, u, h => by
    unfold lookI at h
    by_cases hk : x.1 = k
    · rw [if_pos hk] at h
      simp only [Option.some.injEq, Prod.mk.injEq] at h
      obtain ⟨rfl, rfl⟩ := h
      simp [updI, hk]
    · rw [if_neg hk] at h
      have h2 := (lookI_some h).2.1
      rw [updI, if_neg hk, updI_at v h, show j - i = (j - (i + 1)) + 1 by omega, List.set_cons_succ]

section
variable {kd : IntKind} {P : Program} {t K E : TypeId} {r : Nat} {es : Array MapEntry} {clock : Nat} {w : World} {kvs : KI} {k : Int}

theorem run_look_ki (ok : Bool) (ht : P.underlying t = some (.map K E)) (hk : P.underlying K = some (.int kd)) (hz : (zeroValue E).run P w = .ok (.int .i64 0) w) (hb : w.heap[r]? = some (.map es clock)) (ha : AscI kd es kvs) :
    (Instr.lookup t (.map (some r)) (intV kd k) ok).run P w = .ok (if ok then .tuple #[.int .i64 (((lookI k kvs 0).map (·.2)).getD 0), .bool (lookI k kvs 0).isSome] else .int .i64 (((lookI k kvs 0).map (·.2)).getD 0)) w := by
  have hf := findNow_ascI k es.toList kvs 0 ha
  rcases hl : lookI k kvs 0 with _ | ⟨i, v⟩
  · rw [hl] at hf
    rw [run_lookup_none ok ht hk rfl hb hz hf]
    rfl
  · rw [hl] at hf
    rw [run_lookup_at ok ht hk rfl hb hf]
    rfl

theorem run_upd_ki (v : Int) (ht : P.underlying t = some (.map K E)) (hk : P.underlying K = some (.int kd)) (hb : w.heap[r]? = some (.map es clock)) (ha : AscI kd es kvs) :
    ∃ es' clock', (Instr.mapUpdate t (.map (some r)) (intV kd k) (.int .i64 v)).run P w = .ok () (w.putObj r (.map es' clock')) ∧ AscI kd es' (updI k v kvs) := by
  have hf := findNow_ascI k es.toList kvs 0 ha
  rcases hl : lookI k kvs 0 with _ | ⟨i, u⟩
  · rw [hl] at hf
    refine ⟨_, _, run_insert_new ht hk rfl hb hf, ?_⟩
    unfold AscI at ha ⊢
    rw [Array.toList_push, List.map_append, ha, updI_new hl, List.map_append]
    rfl
  · rw [hl] at hf
    obtain ⟨h1, h2, h3⟩ := lookI_some hl
    simp only [Nat.sub_zero] at h1 h3
    have hlen : es.toList.length = kvs.length := by
      have := congrArg List.length ha
      simpa using this
    have hes : (es[i]?).map (·.key) = some (intV kd k) := by
      have h4 : (es.toList.map (fun e => (e.key, e.val)))[i]? = some (intV kd k, Value.int .i64 u) := by
        rw [ha, List.getElem?_map, List.getElem?_eq_getElem h1, h3]; rfl
      rw [List.getElem?_map] at h4
      rw [← Array.getElem?_toList]
      cases hh : es.toList[i]? with
      | none => rw [hh] at h4; cases h4
      | some e => rw [hh] at h4; simp only [Option.map_some, Option.some.injEq, Prod.mk.injEq] at h4; simp [h4.1]
    have hkey : ((es[i]?).map (·.key)).getD (intV kd k) = intV kd k := by rw [hes]; rfl
    have hsame : Instr.sameBits 10000 (intV kd k) (intV kd k) = true := by
      show (kd == kd && k == k) = true
      simp
    refine ⟨es.modify i fun e => { e with key := intV kd k, val := .int .i64 v }, clock, ?_, ?_⟩
    · unfold Instr.mapUpdate
      simp only [Sem.run_bind, run_underlying ht, Result.andThen, run_getMap hb, run_checkKey false hk rfl, run_findKey hk hf, Option.map_some, hkey, Instr.keyThatStays, hsame, if_true, Sem.run_pure, run_setMap _ hb]
    · unfold AscI
      have hu := updI_at v hl
      simp only [Nat.sub_zero] at hu
      rw [hu]
      apply List.ext_getElem?
      intro j
      have hj : (es.toList.map (fun e => (e.key, e.val)))[j]? = (kvs.map fun x => (intV kd x.1, Value.int .i64 x.2))[j]? := by rw [ha]
      rw [List.getElem?_map, List.getElem?_map] at hj
      rw [List.getElem?_map, List.getElem?_map, Array.toList_modify, List.getElem?_modify, List.getElem?_set]
      by_cases hij : i = j
      · subst hij
        rw [if_pos rfl, if_pos h1]
        cases hh : es.toList[i]? with
        | none => rw [List.getElem?_eq_none_iff] at hh; omega
        | some e => simp
      · rw [if_neg hij]
        simpa [hij] using hj
end

/-- The value of a key. -/
def valI (k : Int) : KI → Option Int
  | [] => none
  | x :: t => if x.1 = k then some x.2 else valI k t
theorem look_valI (k : Int) : ∀ (kvs : KI) (i : Nat), (lookI k kvs i).map (·.2) = valI k kvs
  | [], _ => rfl
  | x :: t, i => by
    unfold lookI valI
    by_cases hk : x.1 = k
    · simp [hk]
    · simp only [hk, if_false]; exact look_valI k t (i + 1)
theorem wpList_upd_ki {kd : IntKind} {P : Program} {t K E : TypeId} {r : Nat} {es : Array MapEntry} {clock : Nat} {w : World} {kvs : KI} {k : Int} {v : Int}
    {ops : Array Oper} {rest : List Oper} {o : Oper} {a : Act} {Q : Exit → Act → World → Prop} (hg : o.guard = none) {m kk x : Operand} (hop : o.op = .mapUpdate t m kk x)
    (hm : a.eval m = .map (some r)) (hkv : a.eval kk = intV kd k) (hxv : a.eval x = .int .i64 v)
    (ht : P.underlying t = some (.map K E)) (hk : P.underlying K = some (.int kd)) (hb : w.heap[r]? = some (.map es clock)) (ha : AscI kd es kvs)
    (h : ∀ es' clock', AscI kd es' (updI k v kvs) → wpList P ops Q rest (a.put o.dst undef) (w.putObj r (.map es' clock'))) : wpList P ops Q (o :: rest) a w := by
  obtain ⟨es', clock', hrun, h1⟩ := run_upd_ki (P := P) (t := t) (k := k) v ht hk hb ha
  refine wpList_plain hg fun Kn hK => ?_
  unfold Oper.wp
  simp only [execOp, hop, hm, hkv, hxv, Sem.run_bind, hrun, Result.andThen]
  exact hK _ _ (h es' clock' h1)

end Go.Vir


/- The walks of field: digits, Code. -/
namespace Go.Vir
open Go Go.RowKit Go.Proofs Go.Shelf
attribute [local go_sem] Oper.semAt_some

/-- The numbers of hexadecimal digits. -/
def digK : KI := [(48, 0), (49, 1), (50, 2), (51, 3), (52, 4), (53, 5), (54, 6), (55, 7), (56, 8), (57, 9), (97, 10), (98, 11), (99, 12), (100, 13), (101, 14), (102, 15), (65, 10), (66, 11), (67, 12), (68, 13), (69, 14), (70, 15)]
def digI (r : Int) : Option Int := if 48 ≤ r ∧ r ≤ 57 then some (r - 48) else if 97 ≤ r ∧ r ≤ 102 then some (r - 87) else if 65 ≤ r ∧ r ≤ 70 then some (r - 55) else none
theorem digK_val (r : Int) : valI r digK = digI r := by
  unfold digI
  split
  · rename_i h
    rcases (by omega : r = 48 ∨ r = 49 ∨ r = 50 ∨ r = 51 ∨ r = 52 ∨ r = 53 ∨ r = 54 ∨ r = 55 ∨ r = 56 ∨ r = 57) with rfl | rfl | rfl | rfl | rfl | rfl | rfl | rfl | rfl | rfl <;> decide
  · split
    · rename_i h
      rcases (by omega : r = 97 ∨ r = 98 ∨ r = 99 ∨ r = 100 ∨ r = 101 ∨ r = 102) with rfl | rfl | rfl | rfl | rfl | rfl <;> decide
    · split
      · rename_i h
        rcases (by omega : r = 65 ∨ r = 66 ∨ r = 67 ∨ r = 68 ∨ r = 69 ∨ r = 70) with rfl | rfl | rfl | rfl | rfl | rfl <;> decide
      · unfold digK
        repeat (unfold valI; rw [if_neg (by show ¬ (_ : Int) = r; omega)])
        rfl
theorem digI_byte (b : UInt8) : digI (b.toNat : Int) = (digN b).map fun (d : Nat) => (d : Int) := by
  unfold digI digN
  by_cases h1 : 48 ≤ b.toNat ∧ b.toNat ≤ 57
  · rw [if_pos (by omega), if_pos h1, Option.map_some]; congr 1; omega
  · rw [if_neg (by omega), if_neg h1]
    by_cases h2 : 97 ≤ b.toNat ∧ b.toNat ≤ 102
    · rw [if_pos (by omega), if_pos h2, Option.map_some]; congr 1; omega
    · rw [if_neg (by omega), if_neg h2]
      by_cases h3 : 65 ≤ b.toNat ∧ b.toNat ≤ 70
      · rw [if_pos (by omega), if_pos h3, Option.map_some]; congr 1; omega
      · rw [if_neg (by omega), if_neg h3]; rfl

/-- The digits' map, half made. -/
def digS1 : ByteArray := ⟨#[48, 49, 50, 51, 52, 53, 54, 55, 56, 57, 97, 98, 99, 100, 101, 102]⟩
def digS2 : ByteArray := ⟨#[65, 66, 67, 68, 69, 70]⟩
theorem dig_next1 : ∀ k : Nat, k < 16 → ∃ h : k < digS1.size, (digS1[k]'h).toNat < 128 ∧ ∃ x, digK[k]? = some x ∧ x.1 = ((digS1[k]'h).toNat : Int) ∧ x.2 = (k : Int) ∧ digK.take (k + 1) = digK.take k ++ [x] ∧ updI x.1 x.2 (digK.take k) = digK.take k ++ [x] := by
  intro k hk
  rcases (by omega : k = 0 ∨ k = 1 ∨ k = 2 ∨ k = 3 ∨ k = 4 ∨ k = 5 ∨ k = 6 ∨ k = 7 ∨ k = 8 ∨ k = 9 ∨ k = 10 ∨ k = 11 ∨ k = 12 ∨ k = 13 ∨ k = 14 ∨ k = 15) with rfl | rfl | rfl | rfl | rfl | rfl | rfl | rfl | rfl | rfl | rfl | rfl | rfl | rfl | rfl | rfl <;> exact ⟨by decide, by decide, _, rfl, by decide, by decide, by decide, by decide⟩
theorem dig_next2 : ∀ k : Nat, k < 6 → ∃ h : k < digS2.size, (digS2[k]'h).toNat < 128 ∧ ∃ x, digK[16 + k]? = some x ∧ x.1 = ((digS2[k]'h).toNat : Int) ∧ x.2 = (k : Int) + 10 ∧ digK.take (16 + k + 1) = digK.take (16 + k) ++ [x] ∧ updI x.1 x.2 (digK.take (16 + k)) = digK.take (16 + k) ++ [x] := by
  intro k hk
  rcases (by omega : k = 0 ∨ k = 1 ∨ k = 2 ∨ k = 3 ∨ k = 4 ∨ k = 5) with rfl | rfl | rfl | rfl | rfl | rfl <;> exact ⟨by decide, by decide, _, rfl, by decide, by decide, by decide, by decide⟩

def DigRel (m q n : Nat) (S : ByteArray) (w : World) (k0 : Nat) (wr : World) : Prop := ∃ (k : Nat) (es : Array MapEntry) (ck : Nat), k ≤ n ∧ AscI .i32 es (digK.take (k0 + k)) ∧ wr.heap[m]? = some (.map es ck) ∧ wr.heap[q]? = some (.stringIter S k) ∧ Below m w wr

set_option maxHeartbeats 1600000 in
theorem field_digits (w : World) : Calls Tryz.prog 228 #[] w fun e w' => (∃ b es ck, e = .returned (.map (some b)) ∧ w'.heap[b]? = some (.map es ck) ∧ AscI .i32 es digK) ∧ Below w.heap.size w w' := by
  have hS1 : digS1.size = 16 := by decide
  have hS2 : digS2.size = 6 := by decide
  have e1 : (⟨#[48, 49, 50, 51, 52, 53, 54, 55, 56, 57, 97, 98, 99, 100, 101, 102]⟩ : ByteArray) = digS1 := rfl
  have e2 : (⟨#[65, 66, 67, 68, 69, 70]⟩ : ByteArray) = digS2 := rfl
  have hmm := @run_makeMap Tryz.prog
  go_enter Tryz.func228, Tryz.ntmps228
  go_wp2
  go_loopw [] (fun wr => DigRel w.heap.size (w.heap.size + 1) 16 digS1 w 0 wr) (fun wr => 16 - wr.iterPos (w.heap.size + 1))
  case atStart =>
    refine ⟨0, #[], 0, Nat.zero_le _, rfl, ?_, ?_, ((Below.refl _ w).alloc (Nat.le_refl _) _).alloc (by simp) _⟩
    · exact (heap_old (by simp)).trans (heap_new rfl)
    · have := World.iter_heap (w.alloc (.map #[] 0)) digS1 0
      simp only [World.size_alloc] at this
      exact this
  case round =>
    obtain ⟨k, es, ck, hk, ha, hm, hit, hbr⟩ := hrel
    rcases Nat.lt_or_ge k 16 with hlt | hge
    · obtain ⟨hks, h128, x, hx0, hx1, hx2, htk, hup⟩ := dig_next1 k hlt
      have hnx : ∀ ty, (Instr.next (.pointer (some ⟨w.heap.size + 1, 0, none⟩)) true ty).run Tryz.prog wr = .ok (.tuple #[.bool true, .int .i64 (k : Int), .int .i32 x.1]) (wr.iterAt (w.heap.size + 1) digS1 (k + 1)) := fun ty => by
        rw [Lib.run_next_any_at wr (w.heap.size + 1) digS1 k ty hit hks, decode_ascii digS1 k hks h128, hx1]
      have hit2 := Lib.iterAt_heap wr (w.heap.size + 1) digS1 k (k + 1) hit
      have hm2 := (Lib.iterAt_other wr (w.heap.size + 1) w.heap.size digS1 (k + 1) (by omega)).trans hm
      have hb2 := Lib.below_iterAt hbr (k := w.heap.size + 1) (by omega) digS1 (k + 1)
      have Hit := Lib.hid hit
      have Hit2 := Lib.hid hit2
      rw [Nat.zero_add] at ha
      have Ha := Lib.hid ha
      have Hup := Lib.hid (hup.trans htk.symm)
      have Hm2 := Lib.hid hm2
      obtain ⟨x1, x2⟩ := x
      simp only at hnx hx2
      subst hx2
      clear hit hit2 hm ha hx0 hx1 htk hup hbr hm2
      generalize wr.iterAt (w.heap.size + 1) digS1 (k + 1) = Wi at *
      go_wp2_with (at_mapUpdate; refine wpList_upd_ki rfl rfl rfl rfl rfl Tryz.underlying156 Tryz.underlying21 Hm2.out Ha.out ?_; intro es2 ck2 ha2)
      go_roundw
      case rel =>
        rw [Hup.out] at ha2
        refine ⟨k + 1, es2, ck2, by omega, by rw [Nat.zero_add]; exact ha2, ?_, ?_, ?_⟩
        · exact World.putObj_heap_same (Array.getElem?_eq_some_iff.1 Hm2.out).1
        · exact (World.putObj_heap_other (by omega)).trans Hit2.out
        · exact ⟨hb2.os, hb2.tape, hb2.output, by simpa using hb2.size, fun j hj => (World.putObj_heap_other (by omega)).trans (hb2.block j hj)⟩
      case measure =>
        simp only [World.iterPos, (World.putObj_heap_other (show w.heap.size + 1 ≠ w.heap.size by omega)).trans Hit2.out, Hit.out]
        omega
    · have hk16 : k = 16 := by omega
      subst hk16
      have hnx : ∀ ty, (Instr.next (.pointer (some ⟨w.heap.size + 1, 0, none⟩)) true ty).run Tryz.prog wr = .ok (.tuple #[.bool false]) wr := fun ty => Lib.run_next_end_at wr (w.heap.size + 1) digS1 16 ty hit (by rw [hS1]; omega)
      have Ha := Lib.hid ha
      have hb1 := hbr.alloc hbr.size (.stringIter digS2 0)
      have hsz : w.heap.size + 1 < wr.heap.size := (Array.getElem?_eq_some_iff.1 hit).1
      obtain ⟨wo, hwo⟩ : ∃ wo : World, wo = wr := ⟨_, rfl⟩
      clear ha
      go_wp2
      subst hwo
      obtain ⟨q, hq⟩ : ∃ q, q = wo.heap.size := ⟨_, rfl⟩
      go_loopw [] (fun wr => DigRel w.heap.size wo.heap.size 6 digS2 w 16 wr) (fun wr => 6 - wr.iterPos wo.heap.size)
      case atStart =>
        refine ⟨0, es, ck, Nat.zero_le _, Ha.out, ?_, ?_, hb1⟩
        · exact (heap_old (by omega)).trans hm
        · exact World.iter_heap wo digS2 0
      case round =>
        obtain ⟨k, es, ck, hk, ha, hm, hit, hbr⟩ := hrel
        rcases Nat.lt_or_ge k 6 with hlt | hge
        · obtain ⟨hks, h128, x, hx0, hx1, hx2, htk, hup⟩ := dig_next2 k hlt
          have hnx : ∀ ty, (Instr.next (.pointer (some ⟨wo.heap.size, 0, none⟩)) true ty).run Tryz.prog wr = .ok (.tuple #[.bool true, .int .i64 (k : Int), .int .i32 x.1]) (wr.iterAt wo.heap.size digS2 (k + 1)) := fun ty => by
            rw [Lib.run_next_any_at wr wo.heap.size digS2 k ty hit hks, decode_ascii digS2 k hks h128, hx1]
          have hit2 := Lib.iterAt_heap wr wo.heap.size digS2 k (k + 1) hit
          have hm2 := (Lib.iterAt_other wr wo.heap.size w.heap.size digS2 (k + 1) (by omega)).trans hm
          have hb2 := Lib.below_iterAt hbr (k := wo.heap.size) (by omega) digS2 (k + 1)
          have Hit := Lib.hid hit
          have Hit2 := Lib.hid hit2
          have Ha := Lib.hid ha
          have Hup := Lib.hid (hup.trans htk.symm)
          have Hm2 := Lib.hid hm2
          obtain ⟨x1, x2⟩ := x
          simp only at hnx hx2
          subst hx2
          clear hit hit2 hm ha hx0 hx1 htk hup hbr hm2
          generalize wr.iterAt wo.heap.size digS2 (k + 1) = Wi at *
          go_wp2_with (at_mapUpdate; refine wpList_upd_ki rfl rfl rfl rfl rfl Tryz.underlying156 Tryz.underlying21 Hm2.out Ha.out ?_; intro es2 ck2 ha2)
          go_roundw
          case rel =>
            rw [Hup.out] at ha2
            refine ⟨k + 1, es2, ck2, by omega, ha2, ?_, ?_, ?_⟩
            · exact World.putObj_heap_same (Array.getElem?_eq_some_iff.1 Hm2.out).1
            · exact (World.putObj_heap_other (by omega)).trans Hit2.out
            · exact ⟨hb2.os, hb2.tape, hb2.output, by simpa using hb2.size, fun j hj => (World.putObj_heap_other (by omega)).trans (hb2.block j hj)⟩
          case measure =>
            simp only [World.iterPos, (World.putObj_heap_other (show wo.heap.size ≠ w.heap.size by omega)).trans Hit2.out, Hit.out]
            omega
        · have hk6 : k = 6 := by omega
          subst hk6
          have hnx : ∀ ty, (Instr.next (.pointer (some ⟨wo.heap.size, 0, none⟩)) true ty).run Tryz.prog wr = .ok (.tuple #[.bool false]) wr := fun ty => Lib.run_next_end_at wr wo.heap.size digS2 6 ty hit (by rw [hS2]; omega)
          have Ha := Lib.hid ha
          have Hm := Lib.hid hm
          clear ha hm hit
          go_wp2
          go_ret
          exact ⟨⟨w.heap.size, es, ck, rfl, Hm.out, Ha.out⟩, hbr⟩
end Go.Vir


/- The reference's names: viramaref05.letter, Value, Names. -/
namespace Go.Vir
open Go Go.RowKit Go.Proofs Go.Shelf
attribute [local go_sem] Oper.semAt_some

set_option maxHeartbeats 800000 in
theorem ref_letter (b : UInt8) (w : World) : Calls Tryz.prog 55 #[.int .u8 (b.toNat : Int)] w fun e w' => e = .returned (.bool (letterB b)) ∧ w = w' := by
  have hlet := letterB_iff b
  have h0 : (0 : Int) ≤ (b.toNat : Int) := by omega
  have h1 : (b.toNat : Int) ≤ 255 := by have := b.toNat_lt; omega
  generalize letterB b = V at *
  generalize (b.toNat : Int) = c at *
  have Hlet := Lib.hid hlet
  clear hlet
  go_enter Tryz.func55, Tryz.ntmps55
  go_wp2
  all_goals go_ret
  all_goals refine ⟨ret_bool ?_, rfl⟩
  all_goals (rw [Bool.eq_iff_iff, Hlet.out]; simp; try omega)

theorem valB_drop (k : List UInt8) (ss : List (List UInt8)) (j : Nat) (h : j < ss.length) : valB k (ss.drop j) j = if ss[j] = k then some (j : Int) else valB k (ss.drop (j + 1)) (j + 1) := by
  rw [List.drop_eq_getElem_cons h]
  rfl

set_option maxHeartbeats 800000 in
theorem ref_Value (A : Option Addr) (n c : Nat) (ss : List (List UInt8)) (k : List UInt8) (w : World) (hz : Strs w w.heap.size A n ss) (hn : n ≤ 1000000) :
    Calls Tryz.prog 20 #[.slice A n c, .string ⟨k.toArray⟩] w fun e w' => e = .returned (.tuple #[.int .i64 ((valB k ss 0).getD 0), .bool (valB k ss 0).isSome]) ∧ w = w' := by
  have Hl := Lib.hid hz.len
  go_enter Tryz.func20, Tryz.ntmps20
  go_wp2
  go_loop [6] (fun i => ∃ j : Nat, j ≤ n ∧ i = .int .i64 (j : Int) ∧ valB k ss 0 = valB k (ss.drop j) j) (fun i => n - (RowKit.intOf i).toNat)
  case atStart => exact ⟨0, Nat.zero_le _, rfl, rfl⟩
  case round =>
    obtain ⟨j, hj, rfl, hv⟩ := hrel
    have Hv := Lib.hid hv
    clear hv
    rcases Nat.lt_or_ge j n with hlt | hge
    · obtain ⟨zb, zo, rfl, hzb, hzc⟩ := hz.at_ (by omega)
      have hjl : j < ss.length := by rw [Hl.out]; exact hlt
      have z1 := hzc j hjl
      have Hd := Lib.hid (valB_drop k ss j hjl)
      clear hzc
      generalize ss[j] = t at *
      have hbe := bytes_eq t k
      rcases ht : decide (t = k) with _ | _
      · have htk : ¬ t = k := of_decide_eq_false ht
        have hst : valB k ss 0 = valB k (ss.drop (j + 1)) (j + 1) := by rw [Hv.out, Hd.out, if_neg htk]
        have Hst := Lib.hid hst
        have e1 : (t == k) = false := by rw [beq_eq_false_iff_ne]; exact htk
        clear hst ht
        go_wp2_with fail
        go_round
        case rel => exact ⟨j + 1, by omega, by go_num, Hst.out⟩
        case measure => simp [RowKit.intOf]; omega
      · have htk : t = k := of_decide_eq_true ht
        have hst : valB k ss 0 = some (j : Int) := by rw [Hv.out, Hd.out, if_pos htk]
        have Hst := Lib.hid hst
        have e1 : (t == k) = true := by rw [beq_iff_eq]; exact htk
        clear hst ht hbe
        go_wp2_with fail
        go_ret2
        exact ⟨by rw [Hst.out]; rfl, rfl⟩
    · have hst : valB k ss 0 = none := by rw [Hv.out, List.drop_eq_nil_of_le (by rw [Hl.out]; exact hge)]; rfl
      have Hst := Lib.hid hst
      clear hst
      go_wp2_with fail
      go_ret2
      exact ⟨by rw [Hst.out]; rfl, rfl⟩
end Go.Vir


/- The reference's names: viramaref05.Names. -/
namespace Go.Vir
open Go Go.RowKit Go.Proofs Go.Shelf
attribute [local go_sem] Oper.semAt_some

theorem take_all_snoc {α : Type} (p : α → Bool) (l : List α) (j : Nat) (h : j < l.length) (ha : (l.take j).all p = true) (hp : p l[j] = true) : (l.take (j + 1)).all p = true := by
  rw [List.take_succ_eq_append_getElem h, List.all_append, ha]; simp [hp]
theorem all_bad {α : Type} (p : α → Bool) (l : List α) (j : Nat) (h : j < l.length) (hp : p l[j] = false) : l.all p = false := by
  rw [List.all_eq_false]
  exact ⟨l[j], List.getElem_mem h, by rw [hp]; simp⟩
theorem nodup_snoc {l : List (List UInt8)} {j : Nat} (h : j < l.length) (hn : (l.take j).Nodup) (hm : l[j] ∉ l.take j) : (l.take (j + 1)).Nodup := by
  rw [List.take_succ_eq_append_getElem h, List.nodup_append]
  refine ⟨hn, by simp, ?_⟩
  intro a ha b hb
  have : b = l[j] := by simpa using hb
  subst this
  rintro rfl
  exact hm ha
theorem not_nodup {l : List (List UInt8)} {j : Nat} (h : j < l.length) (hm : l[j] ∈ l.take j) : ¬ l.Nodup := by
  intro hn
  rw [← List.take_append_drop j l, List.nodup_append] at hn
  refine hn.2.2 _ hm _ ?_ rfl
  rw [List.mem_iff_getElem]
  exact ⟨0, by simp; omega, by simp⟩

theorem byte_at (t : List UInt8) (j : Nat) (h : j < (⟨t.toArray⟩ : ByteArray).size) (h2 : j < t.length) : (⟨t.toArray⟩ : ByteArray)[j]'h = t[j] := rfl

set_option maxRecDepth 100000 in
set_option maxHeartbeats 1600000 in
theorem ref_Names (A : Option Addr) (n c : Nat) (ss : List (List UInt8)) (w : World) (hn : n ≤ 1000000) (hnc : n ≤ c) (hz : Strs w w.heap.size A n ss) (hs : ∀ x ∈ ss, x.length ≤ 1000000) :
    Calls Tryz.prog 23 #[.slice A n c] w fun e w' => e = .returned (.bool (namesB ss)) ∧ Below w.heap.size w w' := by
  have hl := hz.len
  have hb1 : ∀ k (h : k < ss.length), nameB ss[k] = false → namesB ss = false := fun k h hb => by
    unfold namesB; rw [all_bad nameB ss k h hb]; simp
  have hb2 : ∀ k (h : k < ss.length), ss[k] ∈ ss.take k → namesB ss = false := fun k h hb => by
    unfold namesB; rw [decide_eq_false (not_nodup h hb)]; simp
  have hgo : ss.all nameB = true → ss.Nodup → namesB ss = (decide (1 ≤ n) && decide (n ≤ 32)) := fun h1 h2 => by
    unfold namesB; rw [h1, decide_eq_true h2, hl]; simp
  have Hl := Lib.hid hl
  have Hb1 := Lib.hid hb1
  have Hb2 := Lib.hid hb2
  have Hgo := Lib.hid hgo
  have Hs := Lib.hid hs
  clear hl hb1 hb2 hgo hs
  generalize namesB ss = V at *
  go_enter Tryz.func23, Tryz.ntmps23
  go_wp2
  go_loopw [3] (fun i wr => ∃ k : Nat, k ≤ n ∧ i = .int .i64 (k : Int) ∧ (ss.take k).all nameB = true ∧ (ss.take k).Nodup ∧ Below w.heap.size w wr) (fun i _ => n - (RowKit.intOf i).toNat)
  case atStart => exact ⟨0, Nat.zero_le _, rfl, rfl, by simp, Below.refl _ _⟩
  case round =>
    obtain ⟨k, hk, rfl, hall, hnd, hbr⟩ := hrel
    have Hall := Lib.hid hall
    have Hnd := Lib.hid hnd
    clear hall hnd
    generalize wr = wo at *
    rcases Nat.lt_or_ge k n with hlt | hge
    · obtain ⟨zb, zo, rfl, hzb, hzc⟩ := hz.at_ (by omega)
      have hkl : k < ss.length := by rw [Hl.out]; exact hlt
      have z0 := hzc k hkl
      have z1 := (cellOf hbr hzb).trans z0
      have Hmem := Lib.hid (Hs.out _ (List.getElem_mem hkl))
      have hst : nameB ss[k] = true → (ss.take (k + 1)).all nameB = true := take_all_snoc nameB ss k hkl Hall.out
      have hsn : ss[k] ∉ ss.take k → (ss.take (k + 1)).Nodup := nodup_snoc hkl Hnd.out
      have hv1 := Hb1.out k hkl
      have hv2 := Hb2.out k hkl
      have hval := valB_isSome ss[k] (ss.take k) 0
      have hzt : ∀ W, Below w.heap.size w W → Strs W W.heap.size (some ⟨zb, zo, none⟩) k (ss.take k) := fun W hW => by
        refine ⟨by rw [List.length_take]; omega, fun _ => ⟨zb, zo, rfl, by have := hW.size; omega, fun j hj => ?_⟩⟩
        rw [List.getElem_take]
        exact (cellOf hW hzb).trans (hzc j (by rw [List.length_take] at hj; omega))
      have hvc := fun t W (hW : Below w.heap.size w W) => ref_Value (some ⟨zb, zo, none⟩) k c (ss.take k) t W (hzt W hW) (by omega)
      have Hst := Lib.hid hst
      have Hsn := Lib.hid hsn
      have Hv1 := Lib.hid hv1
      have Hv2 := Lib.hid hv2
      have Hval := Lib.hid hval
      have Hvc := Lib.hid hvc
      clear hzc z0 hst hsn hv1 hv2 hval hzt hvc
      generalize ss[k] = t at *
      have htl : t.length ≤ 1000000 := Hmem.out
      go_wp2_with fail
      go_loopw [4] (fun i w9 => ∃ j : Nat, j ≤ t.length ∧ i = .int .i64 (j : Int) ∧ (t.take j).all letterB = true ∧ w9 = wo) (fun i _ => t.length - (RowKit.intOf i).toNat)
      case atStart => exact ⟨0, Nat.zero_le _, rfl, rfl, rfl⟩
      case round =>
        obtain ⟨j, hj, rfl, hla, rfl⟩ := hrel
        have Hla := Lib.hid hla
        clear hla
        rcases Nat.lt_or_ge j t.length with hlj | hgj
        · have hnl := take_all_snoc letterB t j hlj Hla.out
          have hbad : letterB t[j] = false → nameB t = false := fun h => by unfold nameB; rw [all_bad letterB t j hlj h]; rfl
          have Hnl := Lib.hid hnl
          have Hbad := Lib.hid hbad
          have hlc := ref_letter t[j]
          have Hlc := Lib.hid hlc
          clear hnl hbad hlc
          go_wp2_with fail
          simp only [byte_at t j _ hlj]
          refine (Hlc.out _).mono ?_
          rintro e w10 ⟨rfl, rfl⟩
          rcases hlb : letterB t[j] with _ | _
          · have hv := Hv1.out (Hbad.out hlb)
            have Hv := Lib.hid hv
            clear hv hlb
            go_wp2_with fail
            go_ret
            exact ⟨ret_bool Hv.out.symm, hbr⟩
          · have hx := Hnl.out hlb
            have Hx := Lib.hid hx
            clear hx hlb
            go_wp2_with fail
            go_roundw
            case rel => exact ⟨j + 1, by omega, by go_num, Hx.out, trivial⟩
            case measure => simp [RowKit.intOf]; omega
        · have hlt2 : t.all letterB = true := by have := Hla.out; rwa [List.take_of_length_le hgj] at this
          have hnm : nameB t = (!t.isEmpty && decide (t.length ≤ 40)) := by unfold nameB; rw [hlt2, Bool.true_and]
          have Hnm := Lib.hid hnm
          clear hlt2 hnm
          have hjl : decide (j < t.length) = false := by simp; omega
          go_upto_region 9 with fail
          have hvc := fun W (hW : Below w.heap.size w W) => Hvc.out t W hW
          generalize hvv : valB t (ss.take k) 0 = vv at hvc
          have hval := Hval.out
          rw [hvv] at hval
          have Hval2 := Lib.hid hval
          have Hvcc := Lib.hid hvc
          clear hvc hval hvv
          go_quiet ((go_at_call 20; exact Calls.quiet_of_same ((Hvcc.out _ (by first | exact hbr | exact hbr.trans (below_drewN _ _ _) | exact (hbr.drew))).mono fun _ _ h => ⟨h.1, h.2.symm⟩)))
          have hbq := hbr.trans (below_drewN w.heap.size wr nq)
          have z2 : (wr.drewN nq).cell? ⟨zb, zo + k, none⟩ = some (.string ⟨t.toArray⟩) := z1
          clear z1
          generalize wr.drewN nq = wq at *
          rcases hvs : vv.isSome with _ | _
          · have hnot : t ∉ ss.take k := by
              have := Hval2.out
              rw [hvs] at this
              exact of_decide_eq_false this.symm
            have hnd2 := Hsn.out hnot
            have Hnd2 := Lib.hid hnd2
            clear hnot hnd2 hvs
            rcases te : t with _ | ⟨t0, tt⟩
            · have hv := Hv1.out (by rw [Hnm.out, te]; rfl)
              have Hv := Lib.hid hv
              subst te
              clear hv
              go_wp2_with fail
              go_ret
              exact ⟨ret_bool Hv.out.symm, hbq⟩
            · have hue : t.isEmpty = false := by rw [te]; rfl
              have hun : ¬ t = [] := by rw [te]; simp
              rw [← te]
              clear te t0 tt
              rcases Nat.lt_or_ge 40 t.length with h40 | h40
              · have hv := Hv1.out (by rw [Hnm.out, hue, decide_eq_false (by omega)]; rfl)
                have Hv := Lib.hid hv
                clear hv
                go_wp2_with fail
                go_ret
                exact ⟨ret_bool Hv.out.symm, hbq⟩
              · have hx := Hst.out (by rw [Hnm.out, hue, decide_eq_true h40]; rfl)
                have Hx := Lib.hid hx
                clear hx
                have h40' : ¬ 40 < t.length := by omega
                go_wp2_with fail
                go_roundw
                case rel => exact ⟨k + 1, by omega, by go_num, Hx.out, Hnd2.out, hbq⟩
                case measure => simp [RowKit.intOf]; omega
          · have hin : t ∈ ss.take k := by
              have := Hval2.out
              rw [hvs] at this
              exact of_decide_eq_true this.symm
            have hv := Hv2.out hin
            have Hv := Lib.hid hv
            clear hv hin hvs
            go_wp2_with fail
            go_ret
            exact ⟨ret_bool Hv.out.symm, hbq⟩
    · have h1 := Hall.out
      have h2 := Hnd.out
      rw [List.take_of_length_le (by rw [Hl.out]; exact hge)] at h1 h2
      have hv := Hgo.out h1 h2
      have Hv := Lib.hid hv
      have hkn : k = n := by omega
      subst hkn
      clear hv h1 h2
      go_wp2_with fail
      all_goals go_ret
      all_goals refine ⟨ret_bool ?_, hbr⟩
      all_goals (rw [Hv.out, Bool.eq_iff_iff]; simp; try omega)
end Go.Vir


/- The walks of codes: field.Code; viramaref03.digit, Code. -/
namespace Go.Vir
open Go Go.RowKit Go.Proofs Go.Shelf
attribute [local go_sem] Oper.semAt_some

def codeI (s : List UInt8) : Int := (((codeN s).getD 0 : Nat) : Int)
def CodeRel (w1 : World) (s : List UInt8) (v : Value) (wr : World) : Prop := ∃ pos n : Nat, pos ≤ s.length ∧ v = .int .i64 (n : Int) ∧ digsN (s.drop pos) n = digsN s 0 ∧ n < 16 ^ pos ∧ wr = w1.iter ⟨s.toArray⟩ pos
theorem digs_step {s : List UInt8} {pos n : Nat} (h : pos < s.length) (hd : digsN (s.drop pos) n = digsN s 0) : digsN s 0 = match digN s[pos] with | some d => digsN (s.drop (pos + 1)) (16 * n + d) | none => none := by
  rw [← hd, List.drop_eq_getElem_cons h]
  rfl
theorem pow_five {n pos : Nat} (h : n < 16 ^ pos) (hp : pos < 6) : n < 1048576 := by
  have : 16 ^ pos ≤ 16 ^ 5 := Nat.pow_le_pow_right (by decide) (by omega)
  omega
theorem pow_next {n pos d : Nat} (h : n < 16 ^ pos) (hd : d < 16) : 16 * n + d < 16 ^ (pos + 1) := by
  rw [Nat.pow_succ]; omega
theorem code_long {s : List UInt8} (h : s.length < 4 ∨ 6 < s.length) : codeI s = 0 ∧ (codeN s).isSome = false := by
  unfold codeI codeN; rw [if_pos h]; exact ⟨rfl, rfl⟩
theorem code_digs {s : List UInt8} (h : ¬ (s.length < 4 ∨ 6 < s.length)) : codeN s = digsN s 0 := by unfold codeN; rw [if_neg h]
theorem run_dig {w1 : World} {S : ByteArray} {bm : Nat} {es : Array MapEntry} {ck : Nat} (hm : w1.heap[bm]? = some (.map es ck)) (ha : AscI .i32 es digK) (c : Int) (p : Nat) :
    (Instr.lookup 156 (.map (some bm)) (.int .i32 c) true).run Tryz.prog (w1.iter S p) = .ok (.tuple #[.int .i64 ((digI c).getD 0), .bool (digI c).isSome]) (w1.iter S p) := by
  have h := run_look_ki (P := Tryz.prog) (w := w1.iter S p) (k := c) true Tryz.underlying156 Tryz.underlying21 (Tryz.zeroValue3 _) ((heap_old (Array.getElem?_eq_some_iff.1 hm).1).trans hm) ha
  have e1 : (lookI c digK 0).isSome = (digI c).isSome := by rw [← digK_val, ← look_valI c digK 0, Option.isSome_map]
  have e2 : (lookI c digK 0).map (·.2) = digI c := by rw [look_valI, digK_val]
  rw [e1, e2] at h
  exact h

set_option maxRecDepth 100000 in
set_option maxHeartbeats 1600000 in
theorem field_Code (s : List UInt8) (w : World) (hs : s.length ≤ 9223372036854775807) :
    Calls Tryz.prog 206 #[.string ⟨s.toArray⟩] w fun e w' => e = .returned (.tuple #[.int .i64 (codeI s), .bool (codeN s).isSome]) ∧ Below w.heap.size w w' := by
  by_cases hlen : s.length < 4 ∨ 6 < s.length
  · obtain ⟨h1, h2⟩ := code_long hlen
    rw [h1, h2]
    clear h1 h2
    rcases (by omega : s.length < 4 ∨ (¬ s.length < 4 ∧ 6 < s.length)) with h | ⟨h, h'⟩
    · go_enter Tryz.func206, Tryz.ntmps206
      go_wp2
      go_ret2
      exact ⟨rfl, Below.refl _ _⟩
    · go_enter Tryz.func206, Tryz.ntmps206
      go_wp2
      go_ret2
      exact ⟨rfl, Below.refl _ _⟩
  · have hc := code_digs hlen
    have hci : codeI s = (((digsN s 0).getD 0 : Nat) : Int) := by unfold codeI; rw [hc]
    rw [hc, hci]
    have h4 : ¬ s.length < 4 := by omega
    have h6 : ¬ 6 < s.length := by omega
    obtain ⟨R, hR⟩ : ∃ R, digsN s 0 = R := ⟨_, rfl⟩
    rw [hR]
    have HR := Lib.hid hR
    have hsz : (⟨s.toArray⟩ : ByteArray).size = s.length := by have := Lib.size_eq ⟨s.toArray⟩; simpa using this
    have Hsz := Lib.hid hsz
    clear hc hci hlen hR hsz
    go_enter Tryz.func206, Tryz.ntmps206
    go_wp2_with fail
    refine (field_digits _).mono ?_
    rintro e w1 ⟨⟨bm, es, ck, rfl, hm, ha⟩, hb1⟩
    have hlk := fun c p => run_dig (S := ⟨s.toArray⟩) hm ha c p
    have Hlk := Lib.hid hlk
    clear hlk ha hm
    go_wp2_with fail
    go_loopw [5] (fun v wr => CodeRel w1 s v wr) (fun _ wr => s.length - wr.iterPos w1.heap.size)
    case atStart => exact ⟨0, 0, Nat.zero_le _, rfl, rfl, by simp, rfl⟩
    case round =>
      obtain ⟨pos, n, hpos, rfl, hd, hn, rfl⟩ := hrel
      rcases Nat.lt_or_ge pos s.length with hlt | hge
      · have hlt' : pos < (⟨s.toArray⟩ : ByteArray).size := by rw [Hsz.out]; exact hlt
        have hst := digs_step hlt hd
        have hn5 := pow_five hn (by omega)
        have hx0 : (((⟨s.toArray⟩ : ByteArray)[pos]'hlt').toNat : Int) = (s[pos].toNat : Int) := rfl
        rcases Nat.lt_or_ge s[pos].toNat 128 with h128 | h128
        · have hnx : ∀ ty, (Instr.next (.pointer (some ⟨w1.heap.size, 0, none⟩)) true ty).run Tryz.prog (w1.iter ⟨s.toArray⟩ pos) = .ok (.tuple #[.bool true, .int .i64 (pos : Int), .int .i32 (s[pos].toNat : Int)]) (w1.iter ⟨s.toArray⟩ (pos + 1)) := fun ty => by
            rw [run_next_any w1 ⟨s.toArray⟩ pos ty hlt', decode_ascii ⟨s.toArray⟩ pos hlt' h128]; rfl
          have hlk := Hlk.out (s[pos].toNat : Int) (pos + 1)
          have hdb := digI_byte s[pos]
          rcases hdn : digN s[pos] with _ | d
          · rw [hdn] at hst hdb
            simp only [Option.map_none] at hdb
            rw [hdb] at hlk
            simp only [Option.getD_none, Option.isSome_none] at hlk
            have hfin : R = none := by rw [← HR.out, hst]
            have Hf := Lib.hid hfin
            clear hst hdb hdn hd hn hfin
            go_wp2_with fail
            go_ret2
            exact ⟨by rw [Hf.out]; rfl, hb1.trans ((Below.refl _ _).alloc hb1.size _)⟩
          · rw [hdn] at hst hdb
            simp only [Option.map_some] at hdb
            rw [hdb] at hlk
            simp only [Option.getD_some, Option.isSome_some] at hlk
            have hd16 := digN_lt hdn
            have hn' := pow_next hn hd16
            have Hn' := Lib.hid hn'
            have Hst := Lib.hid hst
            clear hst hdb hdn hd hn hn'
            go_wp2_with fail
            go_roundw
            case rel => exact ⟨pos + 1, 16 * n + d, by omega, by congr 1; omega, Hst.out.symm, Hn'.out, rfl⟩
            case measure => simp; omega
        · have hcn := decode_high ⟨s.toArray⟩ pos hlt' h128
          have hdn : digN s[pos] = none := by
            unfold digN
            rw [if_neg (by omega), if_neg (by omega), if_neg (by omega)]
          rw [hdn] at hst
          have hdi : digI (((Utf8.decode ⟨s.toArray⟩ pos).1 : Nat) : Int) = none := by
            have := hcn.1
            unfold digI
            rw [if_neg (by omega), if_neg (by omega), if_neg (by omega)]
          have hnx : ∀ ty, (Instr.next (.pointer (some ⟨w1.heap.size, 0, none⟩)) true ty).run Tryz.prog (w1.iter ⟨s.toArray⟩ pos) = .ok (.tuple #[.bool true, .int .i64 (pos : Int), .int .i32 (((Utf8.decode ⟨s.toArray⟩ pos).1 : Nat) : Int)]) (w1.iter ⟨s.toArray⟩ (pos + (Utf8.decode ⟨s.toArray⟩ pos).2)) := fun ty => run_next_any w1 ⟨s.toArray⟩ pos ty hlt'
          have hlk := Hlk.out (((Utf8.decode ⟨s.toArray⟩ pos).1 : Nat) : Int) (pos + (Utf8.decode ⟨s.toArray⟩ pos).2)
          rw [hdi] at hlk
          simp only [Option.getD_none, Option.isSome_none] at hlk
          have hfin : R = none := by rw [← HR.out, hst]
          have Hf := Lib.hid hfin
          clear hst hdn hd hn hfin hcn hdi
          generalize (Utf8.decode ⟨s.toArray⟩ pos).1 = c at *
          generalize (Utf8.decode ⟨s.toArray⟩ pos).2 = wd at *
          go_wp2_with fail
          go_ret2
          exact ⟨by rw [Hf.out]; rfl, hb1.trans ((Below.refl _ _).alloc hb1.size _)⟩
      · have hnx : ∀ ty, (Instr.next (.pointer (some ⟨w1.heap.size, 0, none⟩)) true ty).run Tryz.prog (w1.iter ⟨s.toArray⟩ pos) = .ok (.tuple #[.bool false]) (w1.iter ⟨s.toArray⟩ pos) := fun ty => run_next_end w1 ⟨s.toArray⟩ pos ty (by rw [Hsz.out]; omega)
        have hfin : R = some n := by rw [← HR.out, ← hd, List.drop_eq_nil_of_le hge]; rfl
        have Hf := Lib.hid hfin
        clear hd hn hfin
        go_wp2_with fail
        go_ret2
        exact ⟨by rw [Hf.out]; rfl, hb1.trans ((Below.refl _ _).alloc hb1.size _)⟩
end Go.Vir


/- Floats that stand for whole numbers below 2^24: how they compare, what they turn back into. No program. -/
namespace Go.Vir
open Go

/-- The float of a whole number. -/
def FF (n : Nat) : Nat := Ieee.double.nearest false n 0

theorem dbl_binade : Ieee.double.binade = 4503599627370496 := by decide
theorem dbl_inf : Ieee.double.infRung = 9218868437227405312 := by decide
theorem dbl_sign : Ieee.double.signWeight = 9223372036854775808 := by decide
theorem dbl_least : Ieee.double.leastPlace = -1074 := by decide
theorem dbl_frac : Ieee.double.fractionBits = 52 := rfl

theorem cut_none (way : Ieee.Toward) (s : Bool) (n : Nat) : way.cut s n 0 = n := by
  unfold Ieee.Toward.cut
  cases way <;> simp [Nat.mod_one]

theorem read_word (r : Nat) (h1 : 4503599627370496 ≤ r) (h2 : r < 9218868437227405312) :
    Ieee.double.read r = .number false (4503599627370496 + r % 4503599627370496) (-1074 + (r / 4503599627370496 - 1 : Nat)) := by
  unfold Ieee.Format.read
  simp only [dbl_binade, dbl_inf, dbl_sign, dbl_least]
  have e1 : r % 9223372036854775808 = r := Nat.mod_eq_of_lt (by omega)
  have e2 : r / 9223372036854775808 = 0 := Nat.div_eq_of_lt (by omega)
  rw [e1, e2, if_neg (by omega), if_pos h2]
  rfl

theorem read_zero (q : Nat) (hq : q = 1074) : Ieee.double.read (FF 0) = .number false (0 * 2 ^ q) (-(q : Int)) := by
  rw [Nat.zero_mul]
  have : FF 0 = 0 := by decide
  rw [this, hq]
  unfold Ieee.Format.read
  simp only [dbl_binade, dbl_sign, dbl_least]
  rfl

theorem read_FF (n : Nat) (h : n < 16777216) : ∃ p : Nat, p ≤ 1074 ∧ Ieee.double.read (FF n) = .number false (n * 2 ^ p) (-(p : Int)) ∧ (n ≠ 0 → p ≤ 52 ∧ 2 ^ 52 ≤ n * 2 ^ p) := by
  by_cases h0 : n = 0
  · subst h0
    exact ⟨1074, Nat.le_refl _, read_zero 1074 rfl, fun h => absurd rfl h⟩
  · have hl1 := Nat.log2_self_le h0
    have hl2 : n < 2 ^ (n.log2 + 1) := Nat.lt_log2_self
    have hl3 : n.log2 < 24 := (Nat.log2_lt h0).2 (by omega)
    generalize hL : n.log2 = L at *
    have hk1 : 2 ^ 52 ≤ n * 2 ^ (52 - L) := by
      calc 2 ^ 52 = 2 ^ L * 2 ^ (52 - L) := by rw [← Nat.pow_add]; congr 1; omega
        _ ≤ n * 2 ^ (52 - L) := Nat.mul_le_mul_right _ hl1
    have hk2 : n * 2 ^ (52 - L) < 2 ^ 53 := by
      calc n * 2 ^ (52 - L) < 2 ^ (L + 1) * 2 ^ (52 - L) := Nat.mul_lt_mul_of_pos_right hl2 (Nat.two_pow_pos _)
        _ = 2 ^ 53 := by rw [← Nat.pow_add]; congr 1; omega
    refine ⟨52 - L, by omega, ?_, fun _ => ⟨by omega, hk1⟩⟩
    have hff : FF n = (1022 + L) * 4503599627370496 + n * 2 ^ (52 - L) := by
      unfold FF Ieee.Format.nearest
      rw [if_neg h0]
      simp only [dbl_binade, dbl_inf, dbl_least, dbl_frac, hL]
      have hm : max ((0 : Int) + (L : Int) - ((52 : Nat) : Int)) (-1074) = -((52 - L : Nat) : Int) := by omega
      rw [hm]
      have e1 : ((0 : Int) - -((52 - L : Nat) : Int)).toNat = 52 - L := by omega
      have e2 : (-((52 - L : Nat) : Int) - 0).toNat = 0 := by omega
      have e3 : (-((52 - L : Nat) : Int) - -1074).toNat = 1022 + L := by omega
      rw [e1, e2, e3, cut_none, Nat.shiftLeft_eq]
      generalize n * 2 ^ (52 - L) = k at *
      show (if false = true then _ else _) = _
      rw [if_neg (by simp)]
      exact Nat.min_eq_left (by omega)
    rw [hff]
    generalize n * 2 ^ (52 - L) = k at *
    rw [read_word _ (by omega) (by omega)]
    congr 1
    · omega
    · omega

theorem cmp_mul (a b c : Nat) (hc : 0 < c) : compare (((a * c : Nat)) : Int) ((b * c : Nat) : Int) = compare a b := by
  show compareOfLessAndEq _ _ = compareOfLessAndEq _ _
  unfold compareOfLessAndEq
  have h1 : (((a * c : Nat) : Int) < ((b * c : Nat) : Int)) ↔ a < b := by
    rw [Int.ofNat_lt]; exact Nat.mul_lt_mul_right hc
  have h2 : (((a * c : Nat) : Int) = ((b * c : Nat) : Int)) ↔ a = b := by
    rw [Int.ofNat_inj]; exact Nat.mul_left_inj (by omega)
  simp only [h1, h2]

theorem order_FF (a b : Nat) (ha : a < 16777216) (hb : b < 16777216) : FloatKind.f64.format.order (FF a) (FF b) = some (compare a b) := by
  obtain ⟨p, _, h1, _⟩ := read_FF a ha
  obtain ⟨q, _, h2, _⟩ := read_FF b hb
  show ((Ieee.double.read (FF a)).order (Ieee.double.read (FF b))) = _
  rw [h1, h2]
  simp only [Ieee.Datum.order, Ieee.signed, Bool.false_eq_true, if_false, Nat.shiftLeft_eq]
  congr 1
  rcases Nat.le_total p q with hpq | hpq
  · have e0 : min (-(p : Int)) (-(q : Int)) = -(q : Int) := by omega
    rw [e0]
    have e1 : (-(p : Int) - -(q : Int)).toNat = q - p := by omega
    have e2 : (-(q : Int) - -(q : Int)).toNat = 0 := by omega
    rw [e1, e2, Nat.mul_assoc, ← Nat.pow_add, Nat.mul_assoc, ← Nat.pow_add, show p + (q - p) = q by omega, Nat.add_zero]
    exact cmp_mul a b _ (Nat.two_pow_pos _)
  · have e0 : min (-(p : Int)) (-(q : Int)) = -(p : Int) := by omega
    rw [e0]
    have e1 : (-(p : Int) - -(p : Int)).toNat = 0 := by omega
    have e2 : (-(q : Int) - -(p : Int)).toNat = p - q := by omega
    rw [e1, e2, Nat.mul_assoc, ← Nat.pow_add, Nat.mul_assoc, ← Nat.pow_add, show q + (p - q) = p by omega, Nat.add_zero]
    exact cmp_mul a b _ (Nat.two_pow_pos _)

theorem lt_FF (a b : Nat) (ha : a < 16777216) (hb : b < 16777216) : (FloatKind.f64.format.order (FF a) (FF b) == some .lt) = decide (a < b) := by
  rw [order_FF a b ha hb, Bool.eq_iff_iff, beq_iff_eq, Option.some.injEq, decide_eq_true_eq]
  exact Nat.compare_eq_lt
theorem gt_FF (a b : Nat) (ha : a < 16777216) (hb : b < 16777216) : (FloatKind.f64.format.order (FF a) (FF b) == some .gt) = decide (b < a) := by
  rw [order_FF a b ha hb, Bool.eq_iff_iff, beq_iff_eq, Option.some.injEq, decide_eq_true_eq]
  exact Nat.compare_eq_gt

theorem toInt_FF (n : Nat) (h : n < 16777216) : (FloatKind.f64.decode (FF n)).toInt .zero = some (n : Int) := by
  obtain ⟨p, _, h1, h2⟩ := read_FF n h
  show ((Ieee.double.read (FF n)).toInt .zero) = _
  rw [h1]
  simp only [Ieee.Datum.toInt, Ieee.Datum.integral, Ieee.signed, Bool.false_eq_true, if_false, Nat.shiftLeft_eq]
  have e1 : (-(p : Int)).toNat = 0 := by omega
  have e2 : (- -(p : Int)).toNat = p := by omega
  rw [e1, e2]
  simp only [Nat.pow_zero, Nat.mul_one]
  congr 2
  unfold Ieee.Toward.cut
  by_cases h0 : n = 0
  · subst h0; simp
  · obtain ⟨hp, hk⟩ := h2 h0
    have hlog : 52 ≤ (n * 2 ^ p).log2 := (Nat.le_log2 (by omega)).2 hk
    have hm : min p ((n * 2 ^ p).log2 + 2) = p := by omega
    simp only [hm, Nat.shiftLeft_eq, Nat.one_mul, Nat.mul_div_cancel _ (Nat.two_pow_pos p), Bool.toNat_false, Nat.add_zero]

theorem nearest_FF (n : Nat) : FloatKind.f64.nearest (n : Int) = FF n := by
  unfold FloatKind.nearest FF
  have h : decide ((n : Int) < 0) = false := by simp
  rw [h]
  rfl
theorem FF_max : FF 1114111 = 4697535882029170688 := by decide
end Go.Vir


/- The walks of a range's ends: field.ends; viramaref03.digit, Code, ends. -/
namespace Go.Vir
open Go Go.RowKit Go.Proofs Go.Shelf
attribute [local go_sem] Oper.semAt_some

def digR (b : UInt8) : Int := match digN b with | some d => (d : Int) | none => -1
set_option maxHeartbeats 800000 in
theorem ref_digit (b : UInt8) (w : World) : Calls Tryz.prog 178 #[.int .u8 (b.toNat : Int)] w fun e w' => e = .returned (.int .i64 (digR b)) ∧ w = w' := by
  have hb : b.toNat < 256 := b.toNat_lt
  have hd : digR b = if 48 ≤ b.toNat ∧ b.toNat ≤ 57 then (b.toNat : Int) - 48 else if 97 ≤ b.toNat ∧ b.toNat ≤ 102 then (b.toNat : Int) - 87 else if 65 ≤ b.toNat ∧ b.toNat ≤ 70 then (b.toNat : Int) - 55 else -1 := by
    unfold digR digN
    by_cases h1 : 48 ≤ b.toNat ∧ b.toNat ≤ 57
    · rw [if_pos h1, if_pos h1]; simp only; omega
    · rw [if_neg h1, if_neg h1]
      by_cases h2 : 97 ≤ b.toNat ∧ b.toNat ≤ 102
      · rw [if_pos h2, if_pos h2]; simp only; omega
      · rw [if_neg h2, if_neg h2]
        by_cases h3 : 65 ≤ b.toNat ∧ b.toNat ≤ 70
        · rw [if_pos h3, if_pos h3]; simp only; omega
        · rw [if_neg h3, if_neg h3]
  rw [hd]
  clear hd
  generalize b.toNat = c at *
  rcases (by omega : (48 ≤ c ∧ c ≤ 57) ∨ (97 ≤ c ∧ c ≤ 102) ∨ (65 ≤ c ∧ c ≤ 70) ∨ c < 48 ∨ (57 < c ∧ c < 65) ∨ (70 < c ∧ c < 97) ∨ 102 < c) with h | h | h | h | h | h | h
  · obtain ⟨h1, h2⟩ := h
    rw [if_pos ⟨h1, h2⟩]
    have g1 : 48 ≤ (c : Int) := by omega
    have g2 : (c : Int) ≤ 57 := by omega
    go_enter Tryz.func178, Tryz.ntmps178
    go_wp2
    go_ret
    exact ⟨by first | rfl | exact ret_int (by omega), rfl⟩
  · obtain ⟨h1, h2⟩ := h
    rw [if_neg (by omega), if_pos ⟨h1, h2⟩]
    have g0 : 48 ≤ (c : Int) := by omega
    have g1 : 57 < (c : Int) := by omega
    have g2 : 97 ≤ (c : Int) := by omega
    have g3 : (c : Int) ≤ 102 := by omega
    clear hb
    go_enter Tryz.func178, Tryz.ntmps178
    go_wp2
    go_ret
    exact ⟨by first | rfl | exact ret_int (by omega), rfl⟩
  · obtain ⟨h1, h2⟩ := h
    rw [if_neg (by omega), if_neg (by omega), if_pos ⟨h1, h2⟩]
    have g0 : 48 ≤ (c : Int) := by omega
    have g1 : 57 < (c : Int) := by omega
    have g2 : (c : Int) < 97 := by omega
    have g3 : 65 ≤ (c : Int) := by omega
    have g4 : (c : Int) ≤ 70 := by omega
    clear hb
    go_enter Tryz.func178, Tryz.ntmps178
    go_wp2
    go_ret
    exact ⟨by first | rfl | exact ret_int (by omega), rfl⟩
  · have h1 := h
    rw [if_neg (by omega), if_neg (by omega), if_neg (by omega)]
    have g0 : (c : Int) < 48 := by omega
    have g1 : (c : Int) < 97 := by omega
    have g2 : (c : Int) < 65 := by omega
    clear hb
    go_enter Tryz.func178, Tryz.ntmps178
    go_wp2
    go_ret
    exact ⟨by first | rfl | exact ret_int (by omega), rfl⟩
  · obtain ⟨h1, h2⟩ := h
    rw [if_neg (by omega), if_neg (by omega), if_neg (by omega)]
    have g0 : 48 ≤ (c : Int) := by omega
    have g1 : 57 < (c : Int) := by omega
    have g2 : (c : Int) < 97 := by omega
    have g3 : (c : Int) < 65 := by omega
    clear hb
    go_enter Tryz.func178, Tryz.ntmps178
    go_wp2
    go_ret
    exact ⟨by first | rfl | exact ret_int (by omega), rfl⟩
  · obtain ⟨h1, h2⟩ := h
    rw [if_neg (by omega), if_neg (by omega), if_neg (by omega)]
    have g0 : 48 ≤ (c : Int) := by omega
    have g1 : 57 < (c : Int) := by omega
    have g2 : (c : Int) < 97 := by omega
    have g3 : 65 ≤ (c : Int) := by omega
    have g4 : 70 < (c : Int) := by omega
    clear hb
    go_enter Tryz.func178, Tryz.ntmps178
    go_wp2
    go_ret
    exact ⟨by first | rfl | exact ret_int (by omega), rfl⟩
  · have h1 := h
    rw [if_neg (by omega), if_neg (by omega), if_neg (by omega)]
    have g0 : 48 ≤ (c : Int) := by omega
    have g1 : 57 < (c : Int) := by omega
    have g2 : 97 ≤ (c : Int) := by omega
    have g3 : 102 < (c : Int) := by omega
    have g4 : 65 ≤ (c : Int) := by omega
    have g5 : 70 < (c : Int) := by omega
    clear hb
    go_enter Tryz.func178, Tryz.ntmps178
    go_wp2
    go_ret
    exact ⟨by first | rfl | exact ret_int (by omega), rfl⟩

set_option maxHeartbeats 800000 in
theorem ref_Code (s : List UInt8) (w : World) (hs : s.length ≤ 9223372036854775807) :
    Calls Tryz.prog 167 #[.string ⟨s.toArray⟩] w fun e w' => e = .returned (.tuple #[.int .i64 (codeI s), .bool (codeN s).isSome]) ∧ w = w' := by
  by_cases hlen : s.length < 4 ∨ 6 < s.length
  · obtain ⟨h1, h2⟩ := code_long hlen
    rw [h1, h2]
    clear h1 h2
    rcases (by omega : s.length < 4 ∨ (¬ s.length < 4 ∧ 6 < s.length)) with h | ⟨h, h'⟩
    · go_enter Tryz.func167, Tryz.ntmps167
      go_wp2
      go_ret2
      exact ⟨rfl, rfl⟩
    · go_enter Tryz.func167, Tryz.ntmps167
      go_wp2
      go_ret2
      exact ⟨rfl, rfl⟩
  · have hc := code_digs hlen
    have hci : codeI s = (((digsN s 0).getD 0 : Nat) : Int) := by unfold codeI; rw [hc]
    rw [hc, hci]
    have h4 : ¬ s.length < 4 := by omega
    have h6 : ¬ 6 < s.length := by omega
    obtain ⟨R, hR⟩ : ∃ R, digsN s 0 = R := ⟨_, rfl⟩
    rw [hR]
    have HR := Lib.hid hR
    clear hc hci hlen hR
    go_enter Tryz.func167, Tryz.ntmps167
    go_wp2_with fail
    go_loop [4, 5] (fun v i => ∃ pos n : Nat, pos ≤ s.length ∧ i = .int .i64 (pos : Int) ∧ v = .int .i64 (n : Int) ∧ digsN (s.drop pos) n = digsN s 0 ∧ n < 16 ^ pos) (fun _ i => s.length - (RowKit.intOf i).toNat)
    case atStart => exact ⟨0, 0, Nat.zero_le _, rfl, rfl, rfl, by simp⟩
    case round =>
      obtain ⟨pos, n, hpos, rfl, rfl, hd, hn⟩ := hrel
      rcases Nat.lt_or_ge pos s.length with hlt | hge
      · have hst := digs_step hlt hd
        have hn5 := pow_five hn (by omega)
        have hx := ref_digit s[pos]
        have hdr : digR s[pos] = match digN s[pos] with | some d => (d : Int) | none => -1 := rfl
        rcases hdn : digN s[pos] with _ | d
        · rw [hdn] at hst hdr
          simp only at hst hdr
          rw [hdr] at hx
          have hfin : R = none := by rw [← HR.out, hst]
          have Hf := Lib.hid hfin
          have Hx := Lib.hid hx
          clear hst hdn hd hn hfin hdr hx
          go_wp2_with fail
          simp only [byte_at s pos _ hlt]
          refine (Hx.out _).mono ?_
          rintro e w2 ⟨rfl, rfl⟩
          go_wp2_with fail
          go_ret2
          exact ⟨by rw [Hf.out]; rfl, rfl⟩
        · have hd16 := digN_lt hdn
          rw [hdn] at hst hdr
          simp only at hst hdr
          rw [hdr] at hx
          have hn' := pow_next hn hd16
          have Hn' := Lib.hid hn'
          have Hst := Lib.hid hst
          have Hx := Lib.hid hx
          clear hst hdn hd hn hn' hdr hx
          go_wp2_with fail
          simp only [byte_at s pos _ hlt]
          refine (Hx.out _).mono ?_
          rintro e w2 ⟨rfl, rfl⟩
          go_wp2_with fail
          go_round
          case rel => exact ⟨pos + 1, 16 * n + d, by omega, by go_num, by congr 1, Hst.out.symm, Hn'.out⟩
          case measure => simp [RowKit.intOf]; omega
      · have hfin : R = some n := by rw [← HR.out, ← hd, List.drop_eq_nil_of_le hge]; rfl
        have Hf := Lib.hid hfin
        clear hd hn hfin
        go_wp2_with fail
        go_ret2
        exact ⟨by rw [Hf.out]; rfl, rfl⟩
end Go.Vir

