/- Joined texts: FoL, ErrG, Rgs, Spq, SpA, SpB, Trn, Pev, PrA, PrB. -/
import Derived.Test.YtkkpkcnlocmnhaaGreatDoorJf
import Derived.Test.YtkkpkcnlocmnhaaGreatDoorJg
import Derived.Test.YtkkpkcnlocmnhaaGreatDoorJd
import Derived.Test.YtkkpkcnlocmnhaaGreatDoorJa
import Derived.Test.YtkkpkcnlocmnhaaGreatDoorJb
import Derived.Test.YtkkpkcnlocmnhaaGreatDoorJc
import Derived.StillTailTactics
import Derived.BigQuiet
import Derived.Deep.QuietTactic
import Derived.Laws.StructEq
import Derived.Deep.RegionHeld3
import Derived.Deep.DeepCutAuto
namespace Go.Vir
open Go Go.RowKit Go.Proofs Go.Shelf
attribute [local go_sem] Oper.semAt_some

def wrongF (f n e : Int) : Value := .iface 80 (.agg #[.int .i64 f, .int .i64 n, .int .i64 e])
theorem recsC_kept {least : Nat} {skip : RecV → Bool} {says : RecV → Option (Option (List Int) × Option (List Int))} : ∀ (l : List RecV) (met : List Int) (s : List MpV × List MpV), recsC least skip says (l.filter fun x => !skip x) met s = recsC least skip says l met s
  | [], _, _ => rfl
  | x :: l, met, s => by
    rw [List.filter_cons, recsC_cons (l := l)]
    by_cases h : skip x = true
    · rw [if_neg (by simp [h]), if_pos h]
      exact recsC_kept l met s
    · rw [if_pos (by simp [h]), recsC_cons, if_neg h, if_neg h]
      cases addC least says x met s with
      | inr e => rfl
      | inl p => exact recsC_kept l p.2 p.1
theorem kept_map (skip : RecV → Bool) (ps : List RecP) : (keptP skip ps).map (·.1) = (ps.map (·.1)).filter fun x => !skip x := by
  unfold keptP
  rw [List.filter_map]
  rfl
theorem recsC_at {least : Nat} {skip : RecV → Bool} {says : RecV → Option (Option (List Int) × Option (List Int))} {KL : List RecV} {i : Nat} (h : i < KL.length) (hs : skip KL[i] = false) (met : List Int) (s : List MpV × List MpV) :
    recsC least skip says (KL.drop i) met s = match addC least says KL[i] met s with
      | .inr e => .inr (KL[i].line, e)
      | .inl (s', met') => recsC least skip says (KL.drop (i + 1)) met' s' := by
  rw [List.drop_eq_getElem_cons h, recsC_cons, if_neg (by rw [hs]; decide)]
  rfl
theorem CK.apart {O : Nat → Prop} {A B : World} (h : Apart O A B) (ho : ∀ k, O k → ∃ es ck, A.heap[k]? = some (.map es ck)) : CK A B := fun k _ _ _ e => by
  refine (h.block k (Array.getElem?_eq_some_iff.1 e).1 (fun hk => ?_)).trans e
  obtain ⟨es, ck, h2⟩ := ho k hk
  rw [e] at h2; cases h2
theorem Apart.wide {O O' : Nat → Prop} {w A B : World} (h : Apart O w A) (h2 : Apart O' A B) (ho : ∀ k, O' k → O k ∨ w.heap.size ≤ k) : Apart O w B :=
  ⟨h2.os.trans h.os, h2.tape.trans h.tape, h2.output.trans h.output, Nat.le_trans h.size h2.size, fun k hk hO => (h2.block k (Nat.lt_of_lt_of_le hk h.size) (fun h3 => (ho k h3).elim hO (fun h4 => by omega))).trans (h.block k hk hO)⟩
theorem MpM.ck {A B : World} {r : Nat} {l : List MpV} (h : MpM A r l) (hr : ∀ es ck, A.heap[r]? = some (.map es ck) → B.heap[r]? = some (.map es ck)) (k : CK A B) : MpM B r l := by
  obtain ⟨es, ck, kvs, km, h1, h2, h3, h4, h5⟩ := h
  exact ⟨es, ck, kvs, km, hr _ _ h1, h2, h3, h4.ckS k, h5⟩
theorem MetM.ck {A B : World} {r : Nat} {l : List Int} (h : MetM A r l) (hr : ∀ es ck, A.heap[r]? = some (.map es ck) → B.heap[r]? = some (.map es ck)) : MetM B r l := by
  obtain ⟨es, ck, kvs, h1, h2, h3⟩ := h
  exact ⟨es, ck, kvs, hr _ _ h1, h2, h3⟩
theorem MpM.map {A : World} {r : Nat} {l : List MpV} (h : MpM A r l) : ∃ es ck, A.heap[r]? = some (.map es ck) := let ⟨es, ck, _, _, h1, _⟩ := h; ⟨es, ck, h1⟩
theorem MetM.map {A : World} {r : Nat} {l : List Int} (h : MetM A r l) : ∃ es ck, A.heap[r]? = some (.map es ck) := let ⟨es, ck, _, h1, _⟩ := h; ⟨es, ck, h1⟩
theorem GlobF.ck {A B : World} (h : GlobF A) (k : CK A B) : GlobF B := by
  obtain ⟨⟨m, hm⟩, _, ht, _⟩ := h
  exact ⟨⟨m, k.cell hm⟩, k.lt hm, k.cell ht, k.lt ht⟩
theorem CK.moves {B1 : Nat} {A B : World} (h : Moves B1 (fun _ => False) A B) : CK A B := fun k _ _ _ e => h.data k _ e rfl (fun h => h)

structure FilC (g h least : Nat) (skip : RecV → Bool) (says : RecV → Option (Option (List Int) × Option (List Int))) : Prop where
  eg : ∀ args w, (callFunc g args).run Tryz.prog w = .ok (.enter g args) w
  eh : ∀ args w, (callFunc h args).run Tryz.prog w = .ok (.enter h args) w
  out : ∀ (p : RecP) (W : World), GlobF W → Strs W W.heap.size p.2.1 p.2.2.1 p.1.fs → p.2.2.1 ≤ 20 → (∀ t ∈ p.1.fs, t.length ≤ 100000) → Calls Tryz.prog g #[pvR p] W fun e w' => e = .returned (.bool (skip p.1)) ∧ Below W.heap.size W w'
  say : ∀ (p : RecP) (W : World), GlobF W → Strs W W.heap.size p.2.1 p.2.2.1 p.1.fs → p.2.2.1 ≤ 20 → (∀ t ∈ p.1.fs, t.length ≤ 100000) → least ≤ p.2.2.1 → Calls Tryz.prog h #[pvR p] W fun e w' => SaidP (says p.1) e w' ∧ Below W.heap.size W w'
theorem filC_data : FilC 75 76 14 skipD saysD where
  eg := enters_of Tryz.func75 (by kernel_rfl) rfl
  eh := enters_of Tryz.func76 (by kernel_rfl) rfl
  out p W _ _ _ _ := fold_isNone p.1 p.2.1 p.2.2.1 p.2.2.2 W
  say p W _ hx h20 hl hle := data1 p.1 p.2.1 p.2.2.1 p.2.2.2 W hx hle (by omega) hl
theorem filC_special : FilC 78 79 3 skipS saysS where
  eg := enters_of Tryz.func78 (by kernel_rfl) rfl
  eh := enters_of Tryz.func79 (by kernel_rfl) rfl
  out p W _ hx h20 _ := special1 p.1 p.2.1 p.2.2.1 p.2.2.2 W hx (by omega)
  say p W hG hx h20 hl hle := special2 p.1 p.2.1 p.2.2.1 p.2.2.2 W hG.mlen hG.mlt hx hle (by omega) hl

theorem addC_ne {least : Nat} {says : RecV → Option (Option (List Int) × Option (List Int))} {x : RecV} {met : List Int} {s : List MpV × List MpV} {e : Int} (h : addC least says x met s = .inr e) : e ≠ 0 := by
  unfold addC at h
  split at h
  · obtain rfl := Sum.inr.inj h; decide
  · split at h
    · obtain rfl := Sum.inr.inj h; decide
    · split at h
      · obtain rfl := Sum.inr.inj h; decide
      · cases h
theorem keeps_apart {O R : Nat → Prop} {A B : World} (h : Apart O A B) (hO : ∀ k, O k → ∃ es ck, A.heap[k]? = some (.map es ck)) (hR : ∀ k, R k → k < A.heap.size ∧ ¬ O k) : Keeps 0 R A B :=
  ⟨h.size, fun k hk => absurd hk (by omega), fun k hk => h.block k (hR k hk).1 (hR k hk).2, fun k o hk hd => (h.block k (Array.getElem?_eq_some_iff.1 hk).1 (fun ho => by
    obtain ⟨es, ck, h2⟩ := hO k ho
    rw [hk] at h2; cases h2; cases hd)).trans hk⟩
theorem CK.setSame {A : World} {b : Nat} {v : Value} {t : TypeId} (h : A.heap[b]? = some (.cells #[v] t (0, 0))) : CK A (A.setCell ⟨b, 0, none⟩ v) := fun k cs t2 m e => by
  by_cases hk : k = b
  · subst hk
    rw [h] at e
    obtain ⟨rfl, rfl, rfl⟩ : #[v] = cs ∧ t = t2 ∧ (0, 0) = m := by simpa using e
    simpa using setCell_blk h 0 v
  · exact (Below.heap_setCell _ _ _ _ hk).trans e
def ReadI (rl rt rm least : Nat) (skip : RecV → Bool) (says : RecV → Option (Option (List Int) × Option (List Int))) (KL : List RecV) (lo ti : List MpV) (w W1 : World) (i : Nat) (W : World) : Prop :=
  ∃ (st : List MpV × List MpV) (met : List Int), recsC least skip says KL [] (lo, ti) = recsC least skip says (KL.drop i) met st ∧ MpM W rl st.1 ∧ MpM W rt st.2 ∧ MetM W rm met ∧ Apart (fun q => q = rl ∨ q = rt) w W ∧ CK W1 W
theorem ReadI.moves {rl rt rm least i B1 : Nat} {skip : RecV → Bool} {says : RecV → Option (Option (List Int) × Option (List Int))} {KL : List RecV} {lo ti : List MpV} {w W1 A B : World} (h : ReadI rl rt rm least skip says KL lo ti w W1 i A) (hm : Moves B1 (fun _ => False) A B) (hB : w.heap.size ≤ B1) : ReadI rl rt rm least skip says KL lo ti w W1 i B := by
  obtain ⟨st, met, h1, h2, h3, h4, h5, h6⟩ := h
  have hd : ∀ {r : Nat}, ∀ es ck, A.heap[r]? = some (.map es ck) → B.heap[r]? = some (.map es ck) := fun es ck e => hm.data _ _ e rfl (fun h => h)
  exact ⟨st, met, h1, h2.ck hd (CK.moves hm), h3.ck hd (CK.moves hm), h4.ck hd, ⟨hm.os.trans h5.os, hm.tape.trans h5.tape, hm.output.trans h5.output, Nat.le_trans h5.size hm.size, fun k hk ho => (hm.low k (by omega) (fun h => h)).trans (h5.block k hk ho)⟩, h6.trans (CK.moves hm)⟩

def ReadQ (rl rt : Nat) (k : Int) (r : (List MpV × List MpV) ⊕ (Int × Int)) (w : World) (e : Ending) (w' : World) : Prop :=
  Apart (fun q => q = rl ∨ q = rt) w w' ∧ match r with
  | .inl s => e = .returned .nilIface ∧ MpM w' rl s.1 ∧ MpM w' rt s.2
  | .inr x => e = .returned (wrongF k x.1 x.2)
theorem results_err {f : Func} {ts : Array Value} {W : World} {a : Nat} {v : Value} {s : Tmp} (hf : f.results = #[.cell s 50]) (hs : ts[s]? = some (.pointer (some ⟨a, 0, none⟩))) (h0 : W.cell? ⟨a, 0, none⟩ = some v) : (results f ts).run Tryz.prog W = .ok v W := by
  simp [results, hf, hs, go_sem, h0]

set_option maxRecDepth 100000 in
set_option maxHeartbeats 8000000 in
theorem maker_read (mb rl rt : Nat) (x0 x1 x2 x3 x4 x5 : Value) (k : Int) (g h least : Nat) (skip : RecV → Bool) (says : RecV → Option (Option (List Int) × Option (List Int))) (s : List UInt8) (lo ti : List MpV) (w : World) (hF : FilC g h least skip says) (hG : GlobF w) (hl : s.length ≤ 20000)
    (hmb : w.heap[mb]? = some (.cells #[x0, x1, x2, x3, x4, x5, .map (some rl), .map (some rt)] 48 (0, 0))) (hlo : MpM w rl lo) (hti : MpM w rt ti) (hne : rl ≠ rt) :
    Calls Tryz.prog 46 #[.pointer (some ⟨mb, 0, none⟩), filVal k (least : Int) g h, .string ⟨s.toArray⟩] w fun e w' => ReadQ rl rt k (fileC least skip says s (lo, ti)) w e w' := by
  obtain ⟨W0, hW0⟩ : ∃ W0, W0 = ((w.alloc (.cells #[.pointer (some ⟨mb, 0, none⟩)] 45)).alloc (.cells #[.int .i64 k, .int .i64 (least : Int), .func (.func g) #[] #[], .func (.func h) #[] #[]] 75)).alloc (.cells #[.nilIface] 50) := ⟨_, rfl⟩
  have hbw : Below w.heap.size w W0 := by rw [hW0]; go_grown
  have hs0 : w.heap.size + 1 + 1 + 1 = W0.heap.size := by rw [hW0]; simp
  have hm0 : W0.heap[w.heap.size]? = some (.cells #[.pointer (some ⟨mb, 0, none⟩)] 45 (0, 0)) := by rw [hW0]; exact (heap_old (by simp <;> omega)).trans ((heap_old (by simp)).trans (heap_new rfl))
  have hf0 : W0.heap[w.heap.size + 1]? = some (.cells #[.int .i64 k, .int .i64 (least : Int), .func (.func g) #[] #[], .func (.func h) #[] #[]] 75 (0, 0)) := by rw [hW0]; exact (heap_old (by simp)).trans (heap_new (by simp))
  have he0 : W0.heap[w.heap.size + 1 + 1]? = some (.cells #[.nilIface] 50 (0, 0)) := by rw [hW0]; exact heap_new (by simp)
  have hfp := field_Parse s W0 (hG.below hbw) hl
  have hfile : fileC least skip says s (lo, ti) = if (fileN s).2.2 = 0 then recsC least skip says (fileN s).1 [] (lo, ti) else .inr ((fileN s).2.1, (fileN s).2.2) := rfl
  have hflds := fileN_fields s
  have hn300 := (fileN_ok s).2
  generalize fileC least skip says s (lo, ti) = R at *
  generalize fileN s = fn at *
  have Hfp := Lib.hid hfp
  have Hfile := Lib.hid hfile
  have Hflds := Lib.hid hflds
  have Hbw := Lib.hid hbw
  have Hm := Lib.hid hm0
  have Hf := Lib.hid hf0
  have He := Lib.hid he0
  have Hmb := Lib.hid hmb
  have Hlo := Lib.hid hlo
  have Hti := Lib.hid hti
  have HG := Lib.hid hG
  have HF := Lib.hid hF
  have hmm := @run_makeMap Tryz.prog
  clear hfp hfile hflds hbw hm0 hf0 he0 hmb hlo hti hG hF
  unfold filVal
  refine (callsIn_wide (n := 0)).1 ?_
  refine callsIn_of_wp_marks Tryz.func46 rfl trivial ?_ rfl
  simp only [Tryz.ntmps46, List.size_toArray, List.length_cons, List.length_nil, Nat.reduceAdd, Nat.reduceSub, Array.replicate_succ, Array.replicate_zero, List.push_toArray, List.append_toArray, List.nil_append, List.cons_append]
  refine wpIn_wide.2 ?_
  go_upto_region 1 with fail
  rw [← hW0]
  clear hW0
  go_wp2_with fail
  refine Hfp.out.mono ?_
  rintro e w1 ⟨A, n, c, rfl, hnc, hr, hb1⟩
  have hbw1 := Hbw.out.trans (hb1.mono Hbw.out.size)
  have hm1 := (hb1.block _ (by omega)).trans Hm.out
  have hf1 := (hb1.block _ (by omega)).trans Hf.out
  have he1 := (hb1.block _ (by omega)).trans He.out
  have hs1 := hb1.size
  by_cases h0 : fn.2.2 = 0
  rotate_left
  · have hne0 : (fn.2.2 != 0) = true := by simpa using h0
    have Hr := Lib.hid (show R = .inr (fn.2.1, fn.2.2) by rw [Hfile.out, if_neg h0])
    obtain ⟨f0, f1, f2, f3⟩ := cells4 hf1
    have e0 := cell_blk he1 0
    have e1 := frozen_blk he1 0
    have hset := setCell_blk he1 0 (wrongF k fn.2.1 fn.2.2)
    have Hset := Lib.hid hset
    have Hb := Lib.hid (hbw1.setCell (p := ⟨w.heap.size + 1 + 1, 0, none⟩) (show w.heap.size ≤ w.heap.size + 1 + 1 by omega) (wrongF k fn.2.1 fn.2.2))
    clear h0 hset hbw1 hm1 hf1 he1 hb1 hr Hfp Hfile Hflds hmm
    unfold wrongF at Hset Hb
    go_wp2_with fail
    refine ⟨_, results_err rfl rfl (cell_blk (by simpa using Hset.out) 0), ?_⟩
    rw [Hr.out]
    exact ⟨Apart.below Hb.out, rfl⟩
  · have hne0 : (fn.2.2 != 0) = false := by simp [h0]
    have hRr : R = recsC least skip says fn.1 [] (lo, ti) := by rw [Hfile.out, if_pos h0]
    obtain ⟨f0, f1, f2, f3⟩ := cells4 hf1
    have Hm1 := Lib.hid hm1
    have Hf1 := Lib.hid hf1
    have He1 := Lib.hid he1
    have HRr := Lib.hid hRr
    have Hrc := Lib.hid hr
    have Hbw1 := Lib.hid hbw1
    clear h0 hRr hm1 hf1 he1 hr Hfp Hfile hbw1 hb1 Hm Hf He
    obtain ⟨Wp, hWp⟩ : ∃ Wp, Wp = (w1.alloc (.map #[] 0)).alloc (.cells #[.map (some w1.heap.size)] 106) := ⟨_, rfl⟩
    have hbp : Below w1.heap.size w1 Wp := by rw [hWp]; go_grown
    have hsp : Wp.heap.size = w1.heap.size + 2 := by rw [hWp]; simp
    have p1 : Wp.heap[w1.heap.size]? = some (.map #[] 0) := by rw [hWp]; exact (heap_old (by simp)).trans (heap_new rfl)
    have p2 : Wp.heap[w1.heap.size + 1]? = some (.cells #[.map (some w1.heap.size)] 106 (0, 0)) := by rw [hWp]; exact heap_new (by simp)
    obtain ⟨g0, g1, g2, g3⟩ := cells4 ((hbp.block _ (by omega)).trans Hf1.out)
    go_upto_region 5 with fail
    rw [← hWp]
    clear hWp hmm f0 f1 f2 f3
    go_wp2_with (go_at_call 73; refine (records_make _ _ _ _ _ _ _ _).mono ?_; rintro e w2 ⟨rfl, rfl⟩)
    refine wp_gen ?_
    intro W1 hW1
    have hsz : W1.heap.size = w1.heap.size + 4 := by rw [hW1]; simp; omega
    have hbA : Below w1.heap.size w1 W1 := by rw [hW1]; exact hbp.trans (by refine Below.mono (B := Wp.heap.size) ?_ hbp.size; go_grown)
    have d1 : W1.heap[w1.heap.size]? = some (.map #[] 0) := by rw [hW1]; exact (heap_old (by simp; omega)).trans ((heap_old (by omega)).trans p1)
    have d2 : W1.heap[w1.heap.size + 1]? = some (.cells #[.map (some w1.heap.size)] 106 (0, 0)) := by rw [hW1]; exact (heap_old (by simp; omega)).trans ((heap_old (by omega)).trans p2)
    have d3 : W1.heap[Wp.heap.size]? = some (.cells #[.int .i64 k, .int .i64 (least : Int), .func (.func g) #[] #[], .func (.func h) #[] #[]] 75 (0, 0)) := by rw [hW1]; exact (heap_old (by simp)).trans (heap_new rfl)
    have d4 : W1.heap[Wp.heap.size + 1]? = some (.cells #[.slice A n c] 83 (0, 0)) := by rw [hW1]; exact heap_new (by simp)
    clear hW1 g0 g1 g2 g3 p1 p2 hbp
    rw [hsp] at d3 d4
    have hsl1 : w.heap.size + 3 ≤ w1.heap.size := by omega
    obtain ⟨ps, hps1, hps2, hps3⟩ := (Hrc.out.below hbA).pairs hbA.size
    have hpf : ∀ p ∈ ps, p.1.fs.length ≤ 20 ∧ ∀ t ∈ p.1.fs, t.length ≤ s.length := fun p hp => Hflds.out p.1 (by rw [← hps1]; exact List.mem_map.2 ⟨p, hp, rfl⟩)
    have hn3 : n ≤ 300 := by rw [← Hrc.out.len]; exact hn300
    have hbW := Hbw1.out.trans (hbA.mono Hbw1.out.size)
    have hGW := HG.out.below hbW
    have hit := records_iter k least g h skip A n c ps (w1.heap.size + 2 + 1) (w1.heap.size + 2) W1 HF.out.eg d4 d3 hps2 (by omega) (fun p hp W hck hsW => by
      obtain ⟨q1, q2⟩ := hpf p hp
      have hx := (hps3 p hp).1.ck hck (Nat.le_trans hbA.size hsW)
      exact HF.out.out p W (hGW.ck hck) hx (by rw [← hx.len]; exact q1) (fun t ht => by have := q2 t ht; omega))
    obtain ⟨KL, hKL⟩ : ∃ KL, KL = (keptP skip ps).map (·.1) := ⟨_, rfl⟩
    have hRK : R = recsC least skip says KL [] (lo, ti) := by rw [HRr.out, hKL, kept_map, hps1, recsC_kept]
    have hKll : (keptP skip ps).length = KL.length := by rw [hKL, List.length_map]
    have hkm : ∀ (i : Nat) (p : RecP), (keptP skip ps)[i]? = some p → ∃ hi : i < KL.length, KL[i] = p.1 ∧ skip p.1 = false ∧ p ∈ ps := fun i p hp => by
      obtain ⟨h1, h2⟩ := List.getElem?_eq_some_iff.1 hp
      have h3 : p ∈ keptP skip ps := List.mem_of_getElem? hp
      unfold keptP at h3
      rw [List.mem_filter] at h3
      refine ⟨by rw [← hKll]; exact h1, ?_, by simpa using h3.2, h3.1⟩
      simp only [hKL, List.getElem_map, h2]
    have hm2 : W1.heap[w.heap.size]? = some (.cells #[.pointer (some ⟨mb, 0, none⟩)] 45 (0, 0)) := (hbA.block _ (by omega)).trans Hm1.out
    have hf2 := (hbA.block _ (show w.heap.size + 1 < w1.heap.size by omega)).trans Hf1.out
    have he2 := (hbA.block _ (show w.heap.size + 1 + 1 < w1.heap.size by omega)).trans He1.out
    have hmbW := (hbW.block mb (Array.getElem?_eq_some_iff.1 Hmb.out).1).trans Hmb.out
    obtain ⟨esl, ckl, hrl⟩ := Hlo.out.map
    obtain ⟨est, ckt, hrt⟩ := Hti.out.map
    have hll := (Array.getElem?_eq_some_iff.1 hrl).1
    have hlt := (Array.getElem?_eq_some_iff.1 hrt).1
    have hI0 : ReadI rl rt w1.heap.size least skip says KL lo ti w W1 0 W1 :=
      ⟨(lo, ti), [], rfl, Hlo.out.ck (fun es ck e => (hbW.block rl hll).trans e) (CK.below hbW), Hti.out.ck (fun es ck e => (hbW.block rt hlt).trans e) (CK.below hbW), ⟨#[], 0, [], d1, rfl, fun q => by simp [valI]⟩, Apart.below hbW, CK.refl _⟩
    have Hit := Lib.hid hit
    have HRK := Lib.hid hRK
    have Hkm := Lib.hid hkm
    have HKll := Lib.hid hKll
    have Hm2 := Lib.hid hm2
    have Hf2 := Lib.hid hf2
    have He2 := Lib.hid he2
    have HmbW := Lib.hid hmbW
    have HGW := Lib.hid hGW
    have Hp3 := Lib.hid hps3
    have Hpf := Lib.hid hpf
    have HbW := Lib.hid hbW
    have HI0 := Lib.hid hI0
    have Hd2 := Lib.hid d2
    have HbA := Lib.hid hbA
    have Hsl := Lib.hid (And.intro hsz (And.intro hsl1 (And.intro hll hlt)))
    clear hit hRK hkm hm2 hf2 he2 hmbW hGW hps1 hps2 hps3 hpf hbW hI0 d1 d2 d3 d4 hbA Hm1 Hf1 He1 HRr Hrc hKL hKll hsp hsz hsl1 Hflds hrl hrt
    refine (wpIn_wide (n := 0)).1 ?_
    refine range_lawR (B1 := W1.heap.size) rfl (enters_of Tryz.func103 (by kernel_rfl) rfl) Hit.out (Below.refl _ _) (fun k hk => hk.elim) (fun k hk => by obtain ⟨cs, t, m, e⟩ := hk; exact (Array.getElem?_eq_some_iff.1 e).1) (Nat.zero_le _) (Nat.le_refl _) (fun _ => rfl)
      (fun i W => ReadI rl rt w1.heap.size least skip says KL lo ti w W1 i W)
      (fun i c W => c = .ret ∧ ∃ ln why, recsC least skip says KL [] (lo, ti) = .inr (ln, why) ∧ Apart (fun q => q = rl ∨ q = rt) w W ∧ W.heap[w.heap.size + 1 + 1]? = some (.cells #[wrongF k ln why] 50 (0, 0)))
      (fun i a' W => ∃ (gb : Nat) (p : RecP), (keptP skip ps)[i]? = some p ∧ a' = { tmps := #[.pointer (some ⟨mb, 0, none⟩), .agg #[.int .i64 k, .int .i64 (least : Int), .func (.func g) #[] #[], .func (.func h) #[] #[]], .string ⟨s.toArray⟩, .pointer (some ⟨w.heap.size, 0, none⟩), .pointer (some ⟨w.heap.size + 1, 0, none⟩), undef, .pointer (some ⟨w.heap.size + 1 + 1, 0, none⟩), .slice A n c, .int .i64 fn.2.1, .int .i64 fn.2.2, .pointer (some ⟨w1.heap.size + 1, 0, none⟩), .pointer (some ⟨gb, 0, none⟩), undef, .tuple #[.slice A n c, .int .i64 fn.2.1, .int .i64 fn.2.2], .string ⟨s.toArray⟩, .tuple #[.slice A n c, .int .i64 fn.2.1, .int .i64 fn.2.2], .slice A n c, .int .i64 fn.2.1, .int .i64 fn.2.2, .int .i64 fn.2.2, .bool false, undef, undef, undef, undef, undef, undef, .map (some w1.heap.size), .agg #[.int .i64 k, .int .i64 (least : Int), .func (.func g) #[] #[], .func (.func h) #[] #[]], .slice A n c, .func (.func 103) #[] #[.pointer (some ⟨w1.heap.size + 2 + 1, 0, none⟩), .pointer (some ⟨w1.heap.size + 2, 0, none⟩)], pvR p, undef, undef, undef, undef, undef, undef, undef, undef, undef, undef, undef, undef, undef, undef], defers := [] } ∧ W.heap[gb]? = some (.cells #[.int .i64 p.1.line, .int .i64 p.1.f, .int .i64 p.1.t, .slice p.2.1 p.2.2.1 p.2.2.2] 88 (0, 0)) ∧ ReadI rl rt w1.heap.size least skip says KL lo ti w W1 i W)
      (fun i a' X Y hi hm => by
        obtain ⟨gb, p, h1, h2, h3, h4⟩ := hi
        exact ⟨gb, p, h1, h2, CK.moves hm _ _ _ _ h3, h4.moves hm HbW.out.size⟩)
      (fun i X Y hi hm => hi.moves hm HbW.out.size)
      (fun i c X Y hi hm => by
        obtain ⟨h1, ln, why, h2, h3, h4⟩ := hi
        have := Hsl.out
        exact ⟨h1, ln, why, h2, ⟨hm.os.trans h3.os, hm.tape.trans h3.tape, hm.output.trans h3.output, Nat.le_trans h3.size hm.size, fun k hk ho => (hm.low k (by omega) (fun h => h)).trans (h3.block k hk ho)⟩, CK.moves hm _ _ _ _ h4⟩)
      HI0.out ?assign ?body ?done ?stop
    case assign =>
      rintro l i W K hi hI hsW hK
      obtain ⟨p, hp⟩ : ∃ p, (keptP skip ps)[i]? = some p := ⟨_, List.getElem?_eq_getElem hi⟩
      have hkv : kvR skip ps i = pvR p := by unfold kvR; rw [hp]; rfl
      have HK := Lib.hid hK
      have HI := Lib.hid hI
      have Hp := Lib.hid hp
      clear hK hI hp
      rw [hkv]
      clear hkv
      obtain ⟨⟨xl, xf, xt, fs⟩, A', n', c'⟩ := p
      have hW' : Below W.heap.size W (W.alloc (.cells #[.int .i64 xl, .int .i64 xf, .int .i64 xt, .slice A' n' c'] 88)) := by go_grown
      have hK2 := HK.out _ _ hW' ⟨W.heap.size, _, Hp.out, rfl, heap_new rfl, HI.out.moves (Apart.moves (Apart.below hW') hsW) HbW.out.size⟩
      have HK2 := Lib.hid hK2
      clear hK2 HK HI Hp
      unfold pvR recVal at HK2
      unfold pvR recVal
      gi_wp2
      exact HK2.out
    case body =>
      rintro l i a' W hi ⟨gb, p, hp, rfl, hgb, hI⟩ hsW
      obtain ⟨st, met, hrec, hlo2, hti2, hme2, hap, hck⟩ := hI
      obtain ⟨hiK, hKi, hsk, hpp⟩ := Hkm.out i p hp
      obtain ⟨q1, q2⟩ := Hpf.out p hpp
      have hx := ((Hp3.out p hpp).1.ck hck (Nat.le_trans HbA.out.size hsW))
      have hpn := (Hp3.out p hpp).2
      have hsl := Hsl.out
      have hadd := maker_add mb rl rt w1.heap.size x0 x1 x2 x3 x4 x5 k least g h says p st.1 st.2 met W HF.out.eh (hck _ _ _ _ HmbW.out) hlo2 hti2 hme2 ⟨hne, by omega, by omega⟩ hx.len (by rw [← hx.len]; omega)
        (fun hle V hV hsV => HF.out.say p V ((HGW.out.ck hck).ck hV) (hx.ck hV hsV) (by rw [← hx.len]; exact q1) (fun t ht => by have := q2 t ht; omega) hle)
      have hstep := recsC_at (least := least) (says := says) hiK (by rw [hKi]; exact hsk) met st
      rw [hKi, ← hrec] at hstep
      have hkl := hlo2.map
      have hkt := hti2.map
      have hkm := hme2.map
      have e0 : W.cell? ⟨w.heap.size, 0, none⟩ = some (.pointer (some ⟨mb, 0, none⟩)) := cell_blk (hck _ _ _ _ Hm2.out) 0
      obtain ⟨f0, f1, f2, f3⟩ := cells4 (hck _ _ _ _ Hf2.out)
      have e2 : W.cell? ⟨w1.heap.size + 1, 0, none⟩ = some (.map (some w1.heap.size)) := cell_blk (hck _ _ _ _ Hd2.out) 0
      obtain ⟨g0, g1, g2, g3⟩ := cells4 hgb
      have hgd : ∀ s1 s2 : List MpV, (s1, s2) = ((s1, s2) : List MpV × List MpV) := fun _ _ => rfl
      have hst2 : (st.1, st.2) = st := rfl
      rw [hst2] at hadd
      generalize hac : addC least says p.1 met st = ac at *
      obtain ⟨⟨xl, xf, xt, fs⟩, A', n', c'⟩ := p
      simp only at hgb g0 g1 g2 g3
      unfold filVal at hadd
      have Hadd := Lib.hid hadd
      have Hgb := Lib.hid hgb
      have Hst := Lib.hid (And.intro hstep (And.intro hap (And.intro hck (And.intro hkl (And.intro hkt hkm)))))
      have Hac := Lib.hid hac
      clear hadd hgb hstep hap hck hkl hkt hkm hac hrec hlo2 hti2 hme2 hx hpn q1 q2 hpp hsk hKi hiK hp hgd hst2
      unfold pvR recVal at Hadd
      unfold pvR recVal
      gi_wp2
      refine ⟨trivial, rfl, (callsIn_round Hadd.out).mono ?_⟩
      clear Hadd f0 f1 f2 f3 g0 g1 g2 g3 e0 e2
      rintro e w7 ⟨hap7, hres⟩
      obtain ⟨hstep, hap, hck, hkl, hkt, hkm⟩ := Hst.out
      have hO7 : ∀ q, (q = rl ∨ q = rt ∨ q = w1.heap.size) → ∃ es ck, W.heap[q]? = some (.map es ck) := fun q hq => by
        rcases hq with rfl | rfl | rfl
        · exact hkl
        · exact hkt
        · exact hkm
      have hck7 := CK.apart hap7 hO7
      have hapw := hap.wide hap7 (fun q hq => by
        rcases hq with rfl | rfl | rfl
        · exact .inl (.inl rfl)
        · exact .inl (.inr rfl)
        · exact .inr (by omega))
      rcases ac with ⟨st', met'⟩ | why
      rotate_left
      · obtain rfl := hres
        have hwne : (why != 0) = true := by
          have := addC_ne Hac.out
          simpa using this
        obtain ⟨f0, f1, f2, f3⟩ := cells4 ((hck.trans hck7) _ _ _ _ Hf2.out)
        obtain ⟨g0, g1, g2, g3⟩ := cells4 (hck7 _ _ _ _ Hgb.out)
        have he7 := (hck.trans hck7) _ _ _ _ He2.out
        have e0 := cell_blk he7 0
        have e1 := frozen_blk he7 0
        have hset := setCell_blk he7 0 (wrongF k xl why)
        have Hset := Lib.hid hset
        have Hrec := Lib.hid (show recsC least skip says KL [] (lo, ti) = .inr (xl, why) from hstep)
        have HA := Lib.hid (⟨hapw.os, hapw.tape, hapw.output, by have := hapw.size; simp [World.setCell]; omega, fun q hq ho => (Below.heap_setCell _ _ _ _ (show q ≠ w.heap.size + 1 + 1 by omega)).trans (hapw.block q hq ho)⟩ : Apart (fun q => q = rl ∨ q = rt) w (w7.setCell ⟨w.heap.size + 1 + 1, 0, none⟩ (wrongF k xl why)))
        have HK := Lib.hid ((keeps_apart (R := fun _ => False) hap7 hO7 (fun q hq => hq.elim)).trans (Keeps.setCell w7 (p := ⟨w.heap.size + 1 + 1, 0, none⟩) (fun h => h) (Nat.zero_le _) (wrongF k xl why)))
        clear hset hstep hapw hck7 hap7 hck hap hkl hkt hkm hO7 he7 Hst
        unfold wrongF at Hset HA HK
        gi_wp2
        exact ⟨HK.out, rfl, xl, why, Hrec.out, HA.out, by simpa [wrongF] using Hset.out⟩
      · obtain ⟨rfl, r1, r2, r3⟩ := hres
        have HI := Lib.hid (show ReadI rl rt w1.heap.size least skip says KL lo ti w W1 (i + 1) w7 from ⟨st', met', hstep, r1, r2, r3, hapw, hck.trans hck7⟩)
        have HK := Lib.hid (keeps_apart (R := fun q => ∃ cs t m, W1.heap[q]? = some (.cells cs t m)) hap7 hO7 (fun q hq => by
          obtain ⟨cs, t, m, e⟩ := hq
          have e2 := hck _ _ _ _ e
          refine ⟨(Array.getElem?_eq_some_iff.1 e2).1, fun ho => ?_⟩
          obtain ⟨es, ck, h2⟩ := hO7 q ho
          rw [e2] at h2; cases h2))
        clear hstep hapw hck7 hap7 hck hap hkl hkt hkm hO7 Hst r1 r2 r3
        gi_wp2
        exact ⟨HK.out, HI.out⟩
    case done =>
      rintro D W hD hI hK
      obtain ⟨st, met, hrec, hlo2, hti2, hme2, hap, hck⟩ := hI
      have hRi : R = .inl st := by
        rw [HRK.out, hrec, List.drop_eq_nil_of_le (Nat.le_of_eq HKll.out.symm)]
        rfl
      have he7 := hck _ _ _ _ He2.out
      have e0 := cell_blk he7 0
      have e1 := frozen_blk he7 0
      have hsl := Hsl.out
      have hne2 : w.heap.size + 1 + 1 ≠ D := by omega
      have hset := setCell_blk he7 0 Value.nilIface
      have hset2 := (World.putObj_heap_other (o := .deferred none) hne2).trans hset
      have hD2 : (W.setCell ⟨w.heap.size + 1 + 1, 0, none⟩ Value.nilIface).heap[D]? = some (.deferred (some [])) := (Below.heap_setCell _ _ _ _ (Ne.symm hne2)).trans hK
      have hckF : CK W ((W.setCell ⟨w.heap.size + 1 + 1, 0, none⟩ Value.nilIface).putObj D (.deferred none)) := (CK.setSame he7).trans (CK.putObj hD2 (fun _ _ _ e => by cases e))
      have hmF : ∀ {r : Nat}, ∀ es ck, W.heap[r]? = some (.map es ck) → ((W.setCell ⟨w.heap.size + 1 + 1, 0, none⟩ Value.nilIface).putObj D (.deferred none)).heap[r]? = some (.map es ck) := fun {r} es ck e =>
        (World.putObj_heap_other (fun e2 => by subst e2; rw [hK] at e; cases e)).trans ((Below.heap_setCell _ _ _ _ (fun e2 => by have e2 : r = w.heap.size + 1 + 1 := e2; subst e2; rw [he7] at e; cases e)).trans e)
      have hapF : Apart (fun q => q = rl ∨ q = rt) w ((W.setCell ⟨w.heap.size + 1 + 1, 0, none⟩ Value.nilIface).putObj D (.deferred none)) :=
        ⟨hap.os, hap.tape, hap.output, by have := hap.size; simp [World.setCell]; omega, fun q hq ho => (World.putObj_heap_other (by omega)).trans ((Below.heap_setCell _ _ _ _ (show q ≠ w.heap.size + 1 + 1 by omega)).trans (hap.block q hq ho))⟩
      have HF2 := Lib.hid (show ReadQ rl rt k R w (.returned .nilIface) ((W.setCell ⟨w.heap.size + 1 + 1, 0, none⟩ Value.nilIface).putObj D (.deferred none)) by
        rw [hRi]
        exact ⟨hapF, rfl, hlo2.ck hmF hckF, hti2.ck hmF hckF⟩)
      have Hset := Lib.hid hset2
      have HD2 := Lib.hid hD2
      clear hRi hrec hlo2 hti2 hme2 hap hck he7 hset hset2 hckF hmF hapF hD2 hK
      go_wp2
      refine ⟨by simp, .inl ⟨_, _, rfl, run_takeDeferred HD2.out, ?_⟩⟩
      exact ⟨_, results_err rfl rfl (cell_blk (by simpa using Hset.out) 0), HF2.out⟩
    case stop =>
      rintro D i c W hD hi ⟨rfl, ln, why, hrec, hap, herr⟩ hK
      have hsl := Hsl.out
      have hRi : R = .inr (ln, why) := by rw [HRK.out, hrec]
      have hne2 : w.heap.size + 1 + 1 ≠ D := by omega
      have hset2 := (World.putObj_heap_other (o := .deferred none) hne2).trans herr
      have hapF : Apart (fun q => q = rl ∨ q = rt) w (W.putObj D (.deferred none)) :=
        ⟨hap.os, hap.tape, hap.output, by have := hap.size; simp; omega, fun q hq ho => (World.putObj_heap_other (by omega)).trans (hap.block q hq ho)⟩
      have HF2 := Lib.hid (show ReadQ rl rt k R w (.returned (wrongF k ln why)) (W.putObj D (.deferred none)) by
        rw [hRi]
        exact ⟨hapF, rfl⟩)
      have Hset := Lib.hid hset2
      have HK := Lib.hid hK
      clear hRi hrec hap herr hset2 hapF hK
      gi_wp2
      refine ⟨by simp, .inl ⟨_, _, rfl, run_takeDeferred HK.out, ?_⟩⟩
      exact ⟨_, results_err rfl rfl (cell_blk Hset.out 0), HF2.out⟩
end Go.Vir


namespace Go.Vir
open Go Go.RowKit Go.Proofs Go.Extern.Stop Go.Stop Go.Extern

theorem gw_valueOfP (t : Addr) (w : World) : (ReflectliteValue.unpack (.iface 82 (.pointer (some t)))).run Tryz.prog w
    = .ok (.agg #[.pointer (some ⟨7, 82, none⟩), .pointer (some ⟨w.heap.size, 0, none⟩), .int .u64 150]) (w.alloc (.cells #[.pointer (some t)] 82)) := by kernel_rfl
theorem gw_typeP (a : Addr) (w : World) : (ReflectliteValue.methodAny (ReflectliteValue.valueError "reflectlite.Value.Type" 0) (fun t _ _ _ => ReflectliteType.toType t) #[.agg #[.pointer (some ⟨7, 82, none⟩), .pointer (some a), .int .u64 150]]).run Tryz.prog w
    = .ok (.iface 159 (.agg #[.pointer (some ⟨7, 82, none⟩)])) w := by kernel_rfl
theorem gw_kindP (w : World) : ((ReflectliteType.abiMethod fun t => (fun a : Nat => Value.int IntKind.u8 (a : Int)) <$> Rtype.kind t) #[.pointer (some ⟨7, 82, none⟩)]).run Tryz.prog w = .ok (.int .u8 22) w := by kernel_rfl
theorem gw_kindS (w : World) : ((ReflectliteType.abiMethod fun t => (fun a : Nat => Value.int IntKind.u8 (a : Int)) <$> Rtype.kind t) #[.pointer (some ⟨7, 80, none⟩)]).run Tryz.prog w = .ok (.int .u8 25) w := by kernel_rfl
theorem gw_partsP (a : Addr) (w : World) : (ReflectliteValue.parts (.agg #[.pointer (some ⟨7, 82, none⟩), .pointer (some a), .int .u64 150])).run Tryz.prog w = .ok (some (82, a, 150)) w := by kernel_rfl
theorem gw_isNilP (a p : Addr) (W : World) (ha : W.cell? a = some (.pointer (some p))) :
    (ReflectliteValue.method (ReflectliteValue.valueError "reflectlite.Value.IsNil" 0) ReflectliteValue.isNil #[.agg #[.pointer (some ⟨7, 82, none⟩), .pointer (some a), .int .u64 150]]).run Tryz.prog W = .ok (.bool false) W := by
  rw [rlm]
  simp only [Sem.run_bind, gw_partsP, Result.andThen]
  simp [ReflectliteValue.isNil, loadVar, isAgg, underlying, Tryz.underlying82, ha, Result.andThen]
theorem gw_elemP (w : World) : (ReflectliteType.method ReflectliteType.elem #[.agg #[.pointer (some ⟨7, 82, none⟩)]]).run Tryz.prog w = .ok (.iface 159 (.agg #[.pointer (some ⟨7, 80, none⟩)])) w := by kernel_rfl
theorem gw_implS (w : World) : (ReflectliteType.relation "Implements" ReflectliteType.implements_ #[.agg #[.pointer (some ⟨7, 80, none⟩)], .iface 159 (.agg #[.pointer (some ⟨7, 50, none⟩)])]).run Tryz.prog w = .ok (.bool true) w := by kernel_rfl
theorem gw_typeOfS (v : Value) (w : World) : (ReflectliteType.typeOf #[.iface 80 v]).run Tryz.prog w = .ok (.iface 159 (.agg #[.pointer (some ⟨7, 80, none⟩)])) w := by kernel_rfl
theorem gw_assS (w : World) : (ReflectliteType.relation "AssignableTo" ReflectliteType.assignableTo #[.agg #[.pointer (some ⟨7, 80, none⟩)], .iface 159 (.agg #[.pointer (some ⟨7, 80, none⟩)])]).run Tryz.prog w = .ok (.bool true) w := by kernel_rfl
theorem gw_valueOfS (c0 c1 c2 : Value) (w : World) : (ReflectliteValue.unpack (.iface 80 (.agg #[c0, c1, c2]))).run Tryz.prog w
    = .ok (.agg #[.pointer (some ⟨7, 80, none⟩), .pointer (some ⟨w.heap.size, 0, none⟩), .int .u64 153]) (w.alloc (.cells #[c0, c1, c2] 80)) := by kernel_rfl
theorem gw_elemOfP (w : World) : (Rtype.elem? 82).run Tryz.prog w = .ok (some 80) w := by kernel_rfl
theorem gw_mkS (p : Addr) (w : World) : (ReflectliteValue.mk 80 p ReflectliteValue.flagAddr).run Tryz.prog w = .ok (.agg #[.pointer (some ⟨7, 80, none⟩), .pointer (some p), .int .u64 409]) w := by kernel_rfl
theorem gw_elemVP (a p : Addr) (W : World) (ha : W.cell? a = some (.pointer (some p))) :
    (ReflectliteValue.method (ReflectliteValue.valueError "reflectlite.Value.Elem" 0) ReflectliteValue.elem #[.agg #[.pointer (some ⟨7, 82, none⟩), .pointer (some a), .int .u64 150]]).run Tryz.prog W
      = .ok (.agg #[.pointer (some ⟨7, 80, none⟩), .pointer (some p), .int .u64 409]) W := by
  rw [rlm]
  simp only [Sem.run_bind, gw_partsP, Result.andThen]
  simp [ReflectliteValue.elem, loadVar, isAgg, underlying, Tryz.underlying82, ha, Result.andThen, gw_elemOfP, gw_mkS]
theorem gw_partsA (a : Addr) (w : World) : (ReflectliteValue.parts (.agg #[.pointer (some ⟨7, 80, none⟩), .pointer (some a), .int .u64 409])).run Tryz.prog w = .ok (some (80, a, 409)) w := by kernel_rfl
theorem gw_partsS (a : Addr) (w : World) : (ReflectliteValue.parts (.agg #[.pointer (some ⟨7, 80, none⟩), .pointer (some a), .int .u64 153])).run Tryz.prog w = .ok (some (80, a, 153)) w := by kernel_rfl
theorem gw_directS (w : World) : (Rtype.directlyAssignable 80 80).run Tryz.prog w = .ok true w := by kernel_rfl
theorem gw_sizeS (w : World) : (sizeOf 80).run Tryz.prog w = .ok 3 w := by kernel_rfl
theorem gw_aggS (w : World) : (isAgg 80).run Tryz.prog w = .ok true w := by kernel_rfl
theorem gw_setS (tb bb : Nat) (c0 c1 c2 o0 o1 o2 : Value) (W : World) (h0 : c0.oneCell' = true) (h1 : c1.oneCell' = true) (h2 : c2.oneCell' = true)
    (hb0 : W.cell? ⟨bb, 0, none⟩ = some c0) (hb1 : W.cell? ⟨bb, 1, none⟩ = some c1) (hb2 : W.cell? ⟨bb, 2, none⟩ = some c2)
    (ht0 : W.cell? ⟨tb, 0, none⟩ = some o0) (ht1 : W.cell? ⟨tb, 1, none⟩ = some o1) (ht2 : W.cell? ⟨tb, 2, none⟩ = some o2) (hf0 : W.frozen? ⟨tb, 0, none⟩ = false) (hf1 : W.frozen? ⟨tb, 1, none⟩ = false) (hf2 : W.frozen? ⟨tb, 2, none⟩ = false) :
    (ReflectliteValue.set #[.agg #[.pointer (some ⟨7, 80, none⟩), .pointer (some ⟨tb, 0, none⟩), .int .u64 409], .agg #[.pointer (some ⟨7, 80, none⟩), .pointer (some ⟨bb, 0, none⟩), .int .u64 153]]).run Tryz.prog W
      = .ok (.tuple #[]) (((W.setCell ⟨tb, 0, none⟩ c0).setCell ⟨tb, 1, none⟩ c1).setCell ⟨tb, 2, none⟩ c2) := by
  have e1 : (loadVar 80 ⟨bb, 0, none⟩).run Tryz.prog W = .ok (.agg #[c0, c1, c2]) W := by
    unfold loadVar
    simp only [Sem.run_bind, gw_aggS, gw_sizeS, Result.andThen, if_true]
    simp [Result.andThen, loadCells, loadCellsFrom, Addr.add, hb0, hb1, hb2]
  have hv : (Value.agg #[c0, c1, c2]).cells = #[c0, c1, c2] := rfl
  have g1 : (W.setCell ⟨tb, 0, none⟩ c0).cell? ⟨tb, 1, none⟩ = some o1 := by
    rw [World.cell?_setCell_other _ _ _ _ (by simp)]; exact ht1
  have k1 : (W.setCell ⟨tb, 0, none⟩ c0).frozen? ⟨tb, 1, none⟩ = false := by simp [hf1]
  have g2 : ((W.setCell ⟨tb, 0, none⟩ c0).setCell ⟨tb, 1, none⟩ c1).cell? ⟨tb, 2, none⟩ = some o2 := by
    rw [World.cell?_setCell_other _ _ _ _ (by simp), World.cell?_setCell_other _ _ _ _ (by simp)]; exact ht2
  have k2 : ((W.setCell ⟨tb, 0, none⟩ c0).setCell ⟨tb, 1, none⟩ c1).frozen? ⟨tb, 2, none⟩ = false := by simp [hf2]
  have e2 : (storeVar 80 ⟨tb, 0, none⟩ (.agg #[c0, c1, c2])).run Tryz.prog W = .ok () (((W.setCell ⟨tb, 0, none⟩ c0).setCell ⟨tb, 1, none⟩ c1).setCell ⟨tb, 2, none⟩ c2) := by
    unfold storeVar
    simp only [hv]
    simp only [Sem.run_bind, gw_sizeS, Result.andThen]
    simp only [storeCells, Addr.add, Sem.run_bind, List.size_toArray, List.length_cons, List.length_nil, ne_eq, not_true_eq_false, if_false, Sem.run_pure, Result.andThen]
    rw [run_store Tryz.prog W _ _ _ h0]
    simp only [↓reduceIte, Nat.one_ne_zero, ht0, hf0, Bool.false_eq_true, Nat.zero_add]
    rw [run_store Tryz.prog _ _ _ _ h1]
    simp only [↓reduceIte, Nat.reduceEqDiff, g1, k1, Bool.false_eq_true]
    rw [run_store Tryz.prog _ _ _ _ h2]
    simp [g2, k2]
  rw [rls]
  simp only [Sem.run_bind, gw_partsA, gw_partsS, Result.andThen]
  simp [ReflectliteValue.flagAddr, e1, e2, Result.andThen, gw_directS]
set_option maxHeartbeats 4000000 in
theorem fold_as_hit (c0 c1 c2 : Value) (tb : Nat) (o0 o1 o2 : Value) (w : World) (h0 : c0.oneCell' = true) (h1 : c1.oneCell' = true) (h2 : c2.oneCell' = true) (htl : tb < w.heap.size)
    (ht0 : w.cell? ⟨tb, 0, none⟩ = some o0) (ht1 : w.cell? ⟨tb, 1, none⟩ = some o1) (ht2 : w.cell? ⟨tb, 2, none⟩ = some o2) (hf0 : w.frozen? ⟨tb, 0, none⟩ = false) (hf1 : w.frozen? ⟨tb, 1, none⟩ = false) (hf2 : w.frozen? ⟨tb, 2, none⟩ = false) (vb : Nat) (hvb : vb < w.heap.size) (hv : w.cell? ⟨vb, 0, none⟩ = some (.pointer (some ⟨tb, 0, none⟩))) :
    Calls Tryz.prog 87 #[.iface 80 (.agg #[c0, c1, c2]), .iface 82 (.pointer (some ⟨tb, 0, none⟩)), .agg #[.pointer (some ⟨7, 82, none⟩), .pointer (some ⟨vb, 0, none⟩), .int .u64 150], .iface 159 (.agg #[.pointer (some ⟨7, 80, none⟩)])] w fun ev w' =>
      ev = .returned (.bool true) ∧ w'.cell? ⟨tb, 0, none⟩ = some c0 ∧ w'.cell? ⟨tb, 1, none⟩ = some c1 ∧ w'.cell? ⟨tb, 2, none⟩ = some c2 ∧ Below tb w w' := by
  have hTO := @run_callFunc_extern Tryz.prog 110 _ ReflectliteType.typeOf Tryz.func110 (by kernel_rfl) (by kernel_rfl) (by kernel_rfl) (by kernel_rfl)
  have hAT := @run_callFunc_extern Tryz.prog 277 _ (ReflectliteType.relation "AssignableTo" ReflectliteType.assignableTo) Tryz.func277 (by kernel_rfl) (by kernel_rfl) (by kernel_rfl) (by kernel_rfl)
  have hEl := @run_callFunc_extern Tryz.prog 111 _ (ReflectliteValue.method (ReflectliteValue.valueError "reflectlite.Value.Elem" 0) ReflectliteValue.elem) Tryz.func111 (by kernel_rfl) (by kernel_rfl) (by kernel_rfl) (by kernel_rfl)
  have hSe := @run_callFunc_extern Tryz.prog 112 _ ReflectliteValue.set Tryz.func112 (by kernel_rfl) (by kernel_rfl) (by kernel_rfl) (by kernel_rfl)
  have hVO := @run_callFunc_extern Tryz.prog 84 _ (fun args => ReflectliteValue.unpack (args.getD 0 (.tuple #[]))) Tryz.func84 (by kernel_rfl) (by kernel_rfl) (by kernel_rfl) (by kernel_rfl)
  have tO := gw_typeOfS
  have mA := cw_methodAssignableTo
  have aS := gw_assS
  have vS := gw_valueOfS
  have el : ∀ o, (ReflectliteValue.method (ReflectliteValue.valueError "reflectlite.Value.Elem" 0) ReflectliteValue.elem #[.agg #[.pointer (some ⟨7, 82, none⟩), .pointer (some ⟨vb, 0, none⟩), .int .u64 150]]).run Tryz.prog (w.alloc o)
      = .ok (.agg #[.pointer (some ⟨7, 80, none⟩), .pointer (some ⟨tb, 0, none⟩), .int .u64 409]) (w.alloc o) :=
    fun o => gw_elemVP _ _ _ ((World.cell?_alloc_lt _ _ _ hvb).trans hv)
  have st : ∀ o, (ReflectliteValue.set #[.agg #[.pointer (some ⟨7, 80, none⟩), .pointer (some ⟨tb, 0, none⟩), .int .u64 409], .agg #[.pointer (some ⟨7, 80, none⟩), .pointer (some ⟨w.heap.size + 1, 0, none⟩), .int .u64 153]]).run Tryz.prog ((w.alloc o).alloc (.cells #[c0, c1, c2] 80))
      = .ok (.tuple #[]) (((((w.alloc o).alloc (.cells #[c0, c1, c2] 80)).setCell ⟨tb, 0, none⟩ c0).setCell ⟨tb, 1, none⟩ c1).setCell ⟨tb, 2, none⟩ c2) := fun o => by
    have hb : ((w.alloc o).alloc (.cells #[c0, c1, c2] 80)).heap[w.heap.size + 1]? = some (.cells #[c0, c1, c2] 80 (0, 0)) := heap_new (by simp)
    exact gw_setS tb (w.heap.size + 1) c0 c1 c2 o0 o1 o2 _ h0 h1 h2 (cell_blk hb 0) (cell_blk hb 1) (cell_blk hb 2)
      (by rw [World.cell?_alloc_lt _ _ _ (by simp; omega), World.cell?_alloc_lt _ _ _ htl]; exact ht0) (by rw [World.cell?_alloc_lt _ _ _ (by simp; omega), World.cell?_alloc_lt _ _ _ htl]; exact ht1) (by rw [World.cell?_alloc_lt _ _ _ (by simp; omega), World.cell?_alloc_lt _ _ _ htl]; exact ht2)
      (by rw [World.frozen?_alloc_old _ _ _ (by simp; omega), World.frozen?_alloc_old _ _ _ (Nat.ne_of_lt htl)]; exact hf0) (by rw [World.frozen?_alloc_old _ _ _ (by simp; omega), World.frozen?_alloc_old _ _ _ (Nat.ne_of_lt htl)]; exact hf1) (by rw [World.frozen?_alloc_old _ _ _ (by simp; omega), World.frozen?_alloc_old _ _ _ (Nat.ne_of_lt htl)]; exact hf2)
  go_enter Tryz.func87, Tryz.ntmps87
  go_wp2
  refine wp_loop_rounds 1 ?_
  rw [rounds_succ]
  go_wp2
  go_ret
  refine ⟨rfl, ?_, ?_, ?_, ?_⟩
  · rw [World.cell?_alloc_lt _ _ _ (by simp; omega), World.cell?_alloc_lt _ _ _ (by simp; omega), World.cell?_setCell_other _ _ _ _ (by simp), World.cell?_setCell_other _ _ _ _ (by simp), World.cell?_setCell_same' _ _ _ (by simp [ht0])]
  · rw [World.cell?_alloc_lt _ _ _ (by simp; omega), World.cell?_alloc_lt _ _ _ (by simp; omega), World.cell?_setCell_other _ _ _ _ (by simp), World.cell?_setCell_same' _ _ _ (by rw [World.cell?_setCell_other _ _ _ _ (by simp)]; simp [ht1])]
  · rw [World.cell?_alloc_lt _ _ _ (by simp; omega), World.cell?_alloc_lt _ _ _ (by simp; omega), World.cell?_setCell_same' _ _ _ (by rw [World.cell?_setCell_other _ _ _ _ (by simp), World.cell?_setCell_other _ _ _ _ (by simp)]; simp [ht2])]
  · go_grown

set_option maxHeartbeats 4000000 in
theorem fold_as (c0 c1 c2 : Value) (tb : Nat) (o0 o1 o2 : Value) (w : World) (h0 : c0.oneCell' = true) (h1 : c1.oneCell' = true) (h2 : c2.oneCell' = true) (htl : tb < w.heap.size)
    (hg : w.cell? ⟨0, 0, none⟩ = some (.iface 159 (.agg #[.pointer (some ⟨7, 50, none⟩)]))) (hgl : 0 < w.heap.size)
    (ht0 : w.cell? ⟨tb, 0, none⟩ = some o0) (ht1 : w.cell? ⟨tb, 1, none⟩ = some o1) (ht2 : w.cell? ⟨tb, 2, none⟩ = some o2) (hf0 : w.frozen? ⟨tb, 0, none⟩ = false) (hf1 : w.frozen? ⟨tb, 1, none⟩ = false) (hf2 : w.frozen? ⟨tb, 2, none⟩ = false) :
    Calls Tryz.prog 51 #[.iface 80 (.agg #[c0, c1, c2]), .iface 82 (.pointer (some ⟨tb, 0, none⟩))] w fun ev w' =>
      ev = .returned (.bool true) ∧ w'.cell? ⟨tb, 0, none⟩ = some c0 ∧ w'.cell? ⟨tb, 1, none⟩ = some c1 ∧ w'.cell? ⟨tb, 2, none⟩ = some c2 ∧ Below tb w w' := by
  have h6 := @run_callFunc_extern Tryz.prog 84 _ (fun args => ReflectliteValue.unpack (args.getD 0 (.tuple #[]))) Tryz.func84 (by kernel_rfl) (by kernel_rfl) (by kernel_rfl) (by kernel_rfl)
  have h7 := @run_callFunc_extern Tryz.prog 85 _ (ReflectliteValue.methodAny (ReflectliteValue.valueError "reflectlite.Value.Type" 0) (fun t _ _ _ => ReflectliteType.toType t)) Tryz.func85 (by kernel_rfl) (by kernel_rfl) (by kernel_rfl) (by kernel_rfl)
  have h8 := @run_callFunc_extern Tryz.prog 86 _ (ReflectliteValue.method (ReflectliteValue.valueError "reflectlite.Value.IsNil" 0) ReflectliteValue.isNil) Tryz.func86 (by kernel_rfl) (by kernel_rfl) (by kernel_rfl) (by kernel_rfl)
  have h27 := @run_callFunc_extern Tryz.prog 269 _ (ReflectliteType.abiMethod fun t => do pure (.int .u8 (← Rtype.kind t))) Tryz.func269 (by kernel_rfl) (by kernel_rfl) (by kernel_rfl) (by kernel_rfl)
  have h37 := @run_callFunc_extern Tryz.prog 279 _ (ReflectliteType.method ReflectliteType.elem) Tryz.func279 (by kernel_rfl) (by kernel_rfl) (by kernel_rfl) (by kernel_rfl)
  have h38 := @run_callFunc_extern Tryz.prog 280 _ (ReflectliteType.relation "Implements" ReflectliteType.implements_) Tryz.func280 (by kernel_rfl) (by kernel_rfl) (by kernel_rfl) (by kernel_rfl)
  have f6 := gw_valueOfP
  have f7 := gw_typeP
  have mK := cw_methodKind
  have mE := cw_methodElem
  have mI := cw_methodImplements
  have kP := gw_kindP
  have kS := gw_kindS
  have eP := gw_elemP
  have iS := gw_implS
  have n8 : ∀ o, (ReflectliteValue.method (ReflectliteValue.valueError "reflectlite.Value.IsNil" 0) ReflectliteValue.isNil #[.agg #[.pointer (some ⟨7, 82, none⟩), .pointer (some ⟨w.heap.size, 0, none⟩), .int .u64 150]]).run Tryz.prog ((w.alloc (.cells #[.pointer (some ⟨tb, 0, none⟩)] 82)).alloc o) = .ok (.bool false) ((w.alloc (.cells #[.pointer (some ⟨tb, 0, none⟩)] 82)).alloc o) := fun o =>
    gw_isNilP _ ⟨tb, 0, none⟩ _ (cell_blk ((heap_old (by simp)).trans (heap_new rfl)) 0)
  have hc := fun W q1 q2 q3 q4 q5 q6 q7 q8 q9 => fold_as_hit c0 c1 c2 tb o0 o1 o2 W h0 h1 h2 q1 q2 q3 q4 q5 q6 q7 w.heap.size q8 q9
  have Hc := Lib.hid hc
  clear hc
  go_enter Tryz.func51, Tryz.ntmps51
  go_wp2_with (go_at_call 87; refine (Hc.out _ (by simp; omega) ((World.cell?_of_block (Below.block (B := w.heap.size) (by go_grown) _ htl)).trans ht0) ((World.cell?_of_block (Below.block (B := w.heap.size) (by go_grown) _ htl)).trans ht1) ((World.cell?_of_block (Below.block (B := w.heap.size) (by go_grown) _ htl)).trans ht2) ((frozen_of_block (Below.block (B := w.heap.size) (by go_grown) _ htl)).trans hf0) ((frozen_of_block (Below.block (B := w.heap.size) (by go_grown) _ htl)).trans hf1) ((frozen_of_block (Below.block (B := w.heap.size) (by go_grown) _ htl)).trans hf2) (by simp; omega) (cell_blk (cs := #[.pointer (some ⟨tb, 0, none⟩)]) (t := 82) (m := (0, 0)) (by simp (disch := (first | omega | (simp only [World.size_alloc]; omega))) only [heap_new, heap_old]) 0)).mono ?_; rintro ev w1 ⟨rfl, hr0, hr1, hr2, hr9⟩)
  go_ret
  exact ⟨rfl, hr0, hr1, hr2, Below.trans (by go_grown) hr9⟩
end Go.Vir


namespace Go.Vir
open Go Go.RowKit Go.Proofs Go.Shelf
attribute [local go_sem] Oper.semAt_some

structure Rgs (w : World) (B : Nat) (A : Option Addr) (n : Nat) (l : List Rg) : Prop where
  len : l.length = n
  at_ : 0 < n → ∃ b o, A = some ⟨b, o, none⟩ ∧ b < B ∧ ∀ (j : Nat) (h : j < l.length), w.cell? ⟨b, o + j * 3, none⟩ = some (.int .i64 l[j].f) ∧ w.cell? ⟨b, o + j * 3 + 1, none⟩ = some (.int .i64 l[j].t) ∧ w.cell? ⟨b, o + j * 3 + 2, none⟩ = some (.int .i64 l[j].v)
def encR (x : Rg) : Value := .agg #[.int .i64 x.f, .int .i64 x.t, .int .i64 x.v]
def rgVs (l : List Rg) : List Value := l.flatMap fun x => [.int .i64 x.f, .int .i64 x.t, .int .i64 x.v]

section
variable {w w' : World} {B B' n F : Nat} {A : Option Addr} {g : Option Nat}
theorem Rgs.below {l : List Rg} (h : Rgs w B A n l) (hb : Below B w w') : Rgs w' B A n l :=
  ⟨h.len, fun hn => let ⟨b, o, e, hlt, hc⟩ := h.at_ hn; ⟨b, o, e, hlt, fun j hj => ⟨(cellOf hb hlt).trans (hc j hj).1, (cellOf hb hlt).trans (hc j hj).2.1, (cellOf hb hlt).trans (hc j hj).2.2⟩⟩⟩
theorem Rgs.more {l : List Rg} (h : Rgs w B A n l) (hB : B ≤ B') : Rgs w B' A n l :=
  ⟨h.len, fun hn => let ⟨b, o, e, hlt, hc⟩ := h.at_ hn; ⟨b, o, e, by omega, hc⟩⟩
theorem Rgs.nil (w : World) (B : Nat) (A : Option Addr) : Rgs w B A 0 [] := ⟨rfl, fun h => absurd h (by omega)⟩
theorem Rgs.kept {l : List Rg} (h : Rgs w B A n l) (hf : Off F g A n) (hk : ∀ k, F ≤ k → k < B → some k ≠ g → w'.heap[k]? = w.heap[k]?) (hB : B ≤ B') : Rgs w' B' A n l :=
  ⟨h.len, fun hn => by
    obtain ⟨b, o, e, hlt, hc⟩ := h.at_ hn
    obtain ⟨b', o', e', hF, hg⟩ := hf hn
    rw [e] at e'
    obtain ⟨rfl, rfl⟩ : b = b' ∧ o = o' := by simpa using e'
    have hb := hk b hF hlt hg
    exact ⟨b, o, e, by omega, fun j hj => ⟨(World.cell?_of_block (a := ⟨b, _, none⟩) hb).trans (hc j hj).1, (World.cell?_of_block (a := ⟨b, _, none⟩) hb).trans (hc j hj).2.1, (World.cell?_of_block (a := ⟨b, _, none⟩) hb).trans (hc j hj).2.2⟩⟩⟩
theorem Rgs.take {l : List Rg} (h : Rgs w B A n l) (k : Nat) (hk : k ≤ n) : Rgs w B A k (l.take k) :=
  ⟨by rw [List.length_take, h.len]; omega, fun h0 => by
    obtain ⟨b, o, e, hb, hc⟩ := h.at_ (by omega)
    refine ⟨b, o, e, hb, fun j hj => ?_⟩
    rw [List.length_take] at hj
    have := hc j (by omega)
    simpa using this⟩
end

theorem rgVs_len (l : List Rg) : (rgVs l).length = l.length * 3 := by
  induction l with
  | nil => rfl
  | cons x t ih => simp only [rgVs, List.flatMap_cons, List.length_append, List.length_cons, List.length_nil] at ih ⊢; omega
theorem rgVs_app (l : List Rg) (x : Rg) : rgVs (l ++ [x]) = rgVs l ++ [.int .i64 x.f, .int .i64 x.t, .int .i64 x.v] := by simp [rgVs]
theorem rgVs_get : ∀ (l : List Rg) (j : Nat) (h : j < l.length), (rgVs l)[j * 3]? = some (.int .i64 l[j].f) ∧ (rgVs l)[j * 3 + 1]? = some (.int .i64 l[j].t) ∧ (rgVs l)[j * 3 + 2]? = some (.int .i64 l[j].v)
  | x :: t, 0, _ => ⟨rfl, rfl, rfl⟩
  | x :: t, j + 1, h => by
    have := rgVs_get t j (by simpa using h)
    rw [show (j + 1) * 3 = j * 3 + 3 by omega]
    exact this
theorem rgVs_one (l : List Rg) : ∀ u ∈ rgVs l, u.oneCell' = true := by
  intro u hu
  obtain ⟨x, _, h⟩ := List.mem_flatMap.1 hu
  simp at h
  rcases h with rfl | rfl | rfl <;> rfl
theorem rgs_own {W : World} {base : Nat} {v : Value} {l : List Rg} (h : W.ownsRow base 139 3 v l.length (rgVs l)) : ∃ A n c, v = .slice A n c ∧ n = l.length ∧ n ≤ c ∧ Rgs W W.heap.size A n l := by
  rcases h.2 with ⟨rfl, h2⟩ | ⟨g, cap, cur, rfl, _, hgb, hcap, _, hcs, ht⟩
  · obtain rfl : l = [] := List.eq_nil_of_length_eq_zero h2
    exact ⟨_, _, _, rfl, rfl, Nat.le_refl _, Rgs.nil _ _ _⟩
  · refine ⟨_, _, _, rfl, rfl, hcap, rfl, fun _ => ⟨g, 0, rfl, (Array.getElem?_eq_some_iff.1 hgb).1, fun j hj => ?_⟩⟩
    obtain ⟨h1, h2, h3⟩ := rgVs_get l j hj
    rw [← ht, List.getElem?_take] at h1 h2 h3
    simp only [World.cell?, hgb, Nat.zero_add]
    rw [if_pos (by omega)] at h1 h2 h3
    exact ⟨by simpa using h1, by simpa using h2, by simpa using h3⟩
theorem Rgs.cells {W : World} {Bd n : Nat} {A : Option Addr} {l : List Rg} (h : Rgs W Bd A n l) : ∀ ad, A = some ad → ∀ (j : Nat) (u : Value), (rgVs l)[j]? = some u → W.cell? (ad.add j) = some u := by
  intro ad hA j u hj
  have hjl := (List.getElem?_eq_some_iff.1 hj).1
  rw [rgVs_len, h.len] at hjl
  obtain ⟨b, o, e, _, hc⟩ := h.at_ (by omega)
  rw [hA] at e
  obtain rfl := Option.some.inj e
  have hj2 : j / 3 < l.length := by rw [h.len]; omega
  obtain ⟨c1, c2, c3⟩ := hc (j / 3) hj2
  obtain ⟨g1, g2, g3⟩ := rgVs_get l (j / 3) hj2
  have hadd : (Addr.add ⟨b, o, none⟩ j) = ⟨b, o + j, none⟩ := by
    unfold Addr.add
    split <;> simp_all
  rw [hadd]
  rcases (by omega : j = j / 3 * 3 ∨ j = j / 3 * 3 + 1 ∨ j = j / 3 * 3 + 2) with e1 | e1 | e1
  · rw [e1, g1] at hj
    rw [e1, c1]; exact hj
  · rw [e1, g2] at hj
    rw [e1, show o + (j / 3 * 3 + 1) = o + j / 3 * 3 + 1 by omega, c2]; exact hj
  · rw [e1, g3] at hj
    rw [e1, show o + (j / 3 * 3 + 2) = o + j / 3 * 3 + 2 by omega, c3]; exact hj
theorem cell_three_new (W : World) (x y z : Value) (t : TypeId) : ∀ (j : Nat) (q : Value), [x, y, z][j]? = some q → (W.alloc (.cells #[x, y, z] t)).cell? ((⟨W.heap.size, 0, none⟩ : Addr).add j) = some q := by
  have e : (W.alloc (.cells #[x, y, z] t)).heap[W.heap.size]? = some (.cells #[x, y, z] t (0, 0)) := heap_new rfl
  intro j q hj
  match j, hj with
  | 0, hj => exact (cell_blk e 0).trans (by simpa using hj)
  | 1, hj => exact (cell_blk e 1).trans (by simpa using hj)
  | 2, hj => exact (cell_blk e 2).trans (by simpa using hj)
theorem rg_info : (Tryz.prog.info? 139).map (fun i => (i.zero, i.size, i.bytes)) = some (some (.agg #[.int .i64 0, .int .i64 0, .int .i64 0]), 3, 24) := by kernel_rfl

set_option maxHeartbeats 1000000 in
theorem indexFunc_rg {g : Nat} {lb : Array Value} {p : Rg → Bool} (A : Option Addr) (n c : Nat) (xs : List Rg) (w : World)
    (eg : ∀ args w, (callFunc g args).run Tryz.prog w = .ok (.enter g args) w) (hx : Rgs w w.heap.size A n xs) (hp : Says Tryz.prog g lb encR p w) (hn : n ≤ 1000000) :
    Calls Tryz.prog 216 #[.slice A n c, .func (.func g) #[] lb] w fun e w' => e = .returned (.int .i64 (firstB p xs)) ∧ Below w.heap.size w w' := by
  go_enter Tryz.func216, Tryz.ntmps216
  go_wp2
  have hlen := hx.len
  go_loopw [8] (fun i wr => ∃ k : Nat, k ≤ n ∧ i = .int .i64 k ∧ (∀ (j : Nat) (h : j < k) (h2 : j < xs.length), p xs[j] = false) ∧ Below w.heap.size w wr) (fun i _ => n - (RowKit.intOf i).toNat)
  case atStart => exact ⟨0, Nat.zero_le _, rfl, fun j h => absurd h (by omega), Below.refl _ _⟩
  case round =>
    obtain ⟨k, hk, rfl, hno, hb⟩ := hrel
    rcases Nat.lt_or_ge k n with hlt | hge
    · obtain ⟨zb, zo, rfl, hzb, hzc⟩ := hx.at_ (by omega)
      have z1 := (cellOf hb hzb).trans (hzc k (by omega)).1
      have z2 := (cellOf hb hzb).trans (hzc k (by omega)).2.1
      have z3 := (cellOf hb hzb).trans (hzc k (by omega)).2.2
      have hc : Calls Tryz.prog g (#[encR xs[k]] ++ lb) wr _ := hp xs[k] wr hb
      clear hzc
      generalize hxk : xs[k] = x at *
      obtain ⟨x1, x2, x3⟩ := x
      simp only [encR] at hc z1 z2 z3
      go_wp2
      refine hc.mono ?_
      rintro e w1 ⟨rfl, hb1⟩
      rcases hpk : p ⟨x1, x2, x3⟩ with _ | _
      · have hno' : ∀ (j : Nat) (h : j < k + 1) (h2 : j < xs.length), p xs[j] = false := fun j h h2 => by
          rcases Nat.lt_or_ge j k with h3 | h3
          · exact hno j h3 h2
          · obtain rfl : j = k := by omega
            rw [hxk]; exact hpk
        have hb2 := hb.trans (hb1.mono hb.size)
        clear hno hb hb1 hc hpk hxk
        go_wp2
        go_roundw
        case rel => exact ⟨k + 1, by omega, by go_num, hno', hb2⟩
        case measure => simp [RowKit.intOf]; omega
      · have hf : firstB p xs = k := firstB_hit (by omega) (by rw [hxk]; exact hpk) (fun j h => hno j h (by omega))
        have Hf := Lib.hid hf
        clear hf hpk hxk
        go_wp2
        go_ret
        exact ⟨ret_int Hf.out.symm, hb.trans (hb1.mono hb.size)⟩
    · have hf : firstB p xs = -1 := firstB_none (fun j h => hno j (by omega) h)
      have Hf := Lib.hid hf
      clear hf
      go_wp2
      go_ret
      exact ⟨ret_int Hf.out.symm, hb⟩

set_option maxHeartbeats 400000 in
theorem containsFunc_rg {g : Nat} {lb : Array Value} {p : Rg → Bool} (A : Option Addr) (n c : Nat) (xs : List Rg) (w : World)
    (eg : ∀ args w, (callFunc g args).run Tryz.prog w = .ok (.enter g args) w) (hx : Rgs w w.heap.size A n xs) (hp : Says Tryz.prog g lb encR p w) (hn : n ≤ 1000000) :
    Calls Tryz.prog 194 #[.slice A n c, .func (.func g) #[] lb] w fun e w' => e = .returned (.bool (xs.any p)) ∧ Below w.heap.size w w' := by
  have hc := indexFunc_rg A n c xs w eg hx hp hn
  rw [← firstB_ge p xs]
  clear eg hx hp
  go_enter Tryz.func194, Tryz.ntmps194
  go_wp2_with (go_at_call 216; refine hc.mono ?_; rintro e w1 ⟨rfl, hb1⟩)
  go_ret
  exact ⟨rfl, hb1⟩

theorem rg_stood : Program.stoodInHeld Tryz.prog 139 = false := by kernel_rfl
theorem rg_eql (x y : Rg) (w : World) : (binOp .eql 139 (.agg #[.int .i64 x.f, .int .i64 x.t, .int .i64 x.v]) (.agg #[.int .i64 y.f, .int .i64 y.t, .int .i64 y.v])).run Tryz.prog w = .ok (.bool (decide (x = y))) w := by
  obtain ⟨a, b, c⟩ := x
  obtain ⟨d, e, f⟩ := y
  rw [run_eql_struct, show (10000 : Nat) = 9998 + 1 + 1 from rfl, run_equalIn_agg w _ 139 _ _ (by simp only [Program.fieldsOf, Tryz.underlying139]) rg_stood]
  simp only [Program.fieldsOf, Tryz.underlying139]
  by_cases h1 : a = d
  · by_cases h2 : b = e
    · by_cases h3 : c = f <;> simp [go_sem, Op.eqFields, h1, h2, h3, Tryz.underlying3]
    · simp [go_sem, Op.eqFields, h1, h2, Tryz.underlying3]
  · simp [go_sem, Op.eqFields, h1, Tryz.underlying3]
end Go.Vir


namespace Go.Vir
open Go

theorem firstB_spec {α : Type} (p : α → Bool) (xs : List α) : (firstB p xs = -1 ∧ ∀ (j : Nat) (h : j < xs.length), p xs[j] = false) ∨ ∃ (k : Nat) (h : k < xs.length), firstB p xs = (k : Int) ∧ p xs[k] = true ∧ ∀ (j : Nat) (h2 : j < k), p (xs[j]'(by omega)) = false := by
  rcases hd : xs.findIdx? p with _ | k
  · rw [List.findIdx?_eq_none_iff] at hd
    have hno : ∀ (j : Nat) (h : j < xs.length), p xs[j] = false := fun j h => hd _ (List.getElem_mem h)
    exact .inl ⟨firstB_none hno, hno⟩
  · obtain ⟨hk, hp, hno⟩ := List.findIdx?_eq_some_iff_getElem.1 hd
    have hno2 : ∀ (j : Nat) (h2 : j < k), p (xs[j]'(by omega)) = false := fun j h2 => by simpa using hno j h2
    exact .inr ⟨k, hk, firstB_hit hk hp hno2, hp, hno2⟩
def inR (r : Int) (x : Rg) : Bool := decide (x.f ≤ r) && decide (r ≤ x.t)
theorem findR_none {l : List Rg} {r : Int} (h : ∀ (j : Nat) (h : j < l.length), inR r l[j] = false) : findR l r = none := by
  unfold findR
  rw [Option.map_eq_none_iff, List.find?_eq_none]
  intro x hx
  obtain ⟨j, hj, rfl⟩ := List.getElem_of_mem hx
  have := h j hj
  unfold inR at this
  simp [this]
theorem findR_hit {l : List Rg} {r : Int} {k : Nat} (hk : k < l.length) (hp : inR r l[k] = true) (hno : ∀ (j : Nat) (h2 : j < k), inR r (l[j]'(by omega)) = false) : findR l r = some l[k].v := by
  unfold findR
  rw [Option.map_eq_some_iff]
  refine ⟨l[k], ?_, rfl⟩
  rw [List.find?_eq_some_iff_getElem]
  refine ⟨hp, k, hk, rfl, fun j hj => ?_⟩
  have := hno j hj
  unfold inR at this
  simp [this]
end Go.Vir


namespace Go.Vir
open Go Go.RowKit Go.Proofs Go.Shelf
attribute [local go_sem] Oper.semAt_some

set_option maxHeartbeats 1000000 in
theorem span_isOne (x : Rg) (w : World) (h : oneR x = true) : Calls Tryz.prog 160 #[.agg #[.int .i64 x.f, .int .i64 x.t, .int .i64 x.v]] w fun e w' => e = .returned (.bool true) ∧ Below w.heap.size w w' := by
  have hq := fun w => rg_eql x x w
  obtain ⟨f, t, v⟩ := x
  rw [oneR_iff] at h
  obtain ⟨h1, h2, h3, h4, h5⟩ := h
  simp only [decide_true] at hq h1 h2 h3 h4 h5
  have m1 : ∀ ts ty w, (Builtin.max_ ts ty #[.int .i64 f, .int .i64 0]).run Tryz.prog w = .ok (.int .i64 f) w := fun ts ty w => by rw [run_max_int2, if_neg (by omega)]
  have m2 : ∀ ts ty w, (Builtin.max_ ts ty #[.int .i64 t, .int .i64 f]).run Tryz.prog w = .ok (.int .i64 t) w := fun ts ty w => by rw [run_max_int2, if_neg (by omega)]
  have m3 : ∀ ts ty w, (Builtin.min_ ts ty #[.int .i64 t, .int .i64 1114111]).run Tryz.prog w = .ok (.int .i64 t) w := fun ts ty w => by
    rw [run_min_int2]; split
    · have : t = 1114111 := by omega
      rw [this]
    · rfl
  have m4 : ∀ ts ty w, (Builtin.max_ ts ty #[.int .i64 v, .int .i64 0]).run Tryz.prog w = .ok (.int .i64 v) w := fun ts ty w => by rw [run_max_int2, if_neg (by omega)]
  have m5 : ∀ ts ty w, (Builtin.min_ ts ty #[.int .i64 v, .int .i64 31]).run Tryz.prog w = .ok (.int .i64 v) w := fun ts ty w => by
    rw [run_min_int2]; split
    · have : v = 31 := by omega
      rw [this]
    · rfl
  clear h1 h2 h3 h4 h5
  go_enter Tryz.func160, Tryz.ntmps160
  go_wp2_with fail
  go_ret
  exact ⟨rfl, by go_grown⟩

set_option maxHeartbeats 2000000 in
theorem span_Right (A : Option Addr) (n c : Nat) (l : List Rg) (w : World) (hx : Rgs w w.heap.size A n l) (hn : n ≤ 1000000) (hrise : riseR (-1) l = true) :
    Calls Tryz.prog 138 #[.slice A n c] w fun e w' => e = .returned (.bool (decide ((n : Int) ≤ 600))) ∧ Below w.heap.size w w' := by
  have hlen := hx.len
  have Hlen := Lib.hid hlen
  clear hlen
  go_enter Tryz.func138, Tryz.ntmps138
  go_wp2_with fail
  go_loopw [3, 5, 8] (fun last _ i wr => ∃ (k : Nat) (z : Int), k ≤ n ∧ i = .int .i64 (k : Int) ∧ last = .int .i64 z ∧ riseR z (l.drop k) = true ∧ Below w.heap.size w wr) (fun _ _ i _ => n - (RowKit.intOf i).toNat)
  case atStart => exact ⟨0, -1, Nat.zero_le _, rfl, rfl, by simpa using hrise, Below.refl _ _⟩
  case round =>
    obtain ⟨k, z, hk, rfl, rfl, hr, hbr⟩ := hrel
    rcases Nat.lt_or_ge k n with hlt | hge
    · obtain ⟨b, o, rfl, hb, hc⟩ := hx.at_ (by omega)
      have hkl : k < l.length := by rw [Hlen.out]; exact hlt
      have u0 := (cellOf hbr hb).trans (hc k hkl).1
      have u1 := (cellOf hbr hb).trans (hc k hkl).2.1
      have u2 := (cellOf hbr hb).trans (hc k hkl).2.2
      rw [List.drop_eq_getElem_cons hkl] at hr
      simp only [riseR, Bool.and_eq_true, decide_eq_true_eq] at hr
      generalize l[k] = x at *
      have h1 := fun W => span_isOne x W hr.1
      have hr2 := hr.2.2
      have hzb : decide (x.f ≤ z) = false := decide_eq_false (by have := hr.2.1; omega)
      obtain ⟨x1, x2, x3⟩ := x
      simp only at u0 u1 u2 h1 hr2 hzb
      have H1 := Lib.hid h1
      have Hr2 := Lib.hid hr2
      clear hr h1 hr2 hc hrise
      go_wp2_with fail
      refine (H1.out _).mono ?_
      rintro e w5 ⟨rfl, hb5⟩
      have hb6 : Below w.heap.size w w5 := (hbr.alloc hbr.size _).trans (hb5.mono (by simp; have := hbr.size; omega))
      have hblk : w5.heap[wr.heap.size]? = some (.cells #[.int .i64 x1, .int .i64 x2, .int .i64 x3] 139 (0, 0)) := (hb5.block _ (by simp)).trans (heap_new rfl)
      have v0 : w5.cell? ⟨wr.heap.size, 0, none⟩ = some (.int .i64 x1) := cell_blk hblk 0
      have v1 : w5.cell? ⟨wr.heap.size, 1, none⟩ = some (.int .i64 x2) := cell_blk hblk 1
      go_wp2_with fail
      go_roundw
      case rel => exact ⟨k + 1, x2, by omega, by go_num, rfl, Hr2.out, hb6⟩
      case measure => simp [RowKit.intOf]; omega
    · clear hr hrise
      go_wp2_with fail
      go_ret
      exact ⟨rfl, hbr⟩

set_option maxHeartbeats 1000000 in
theorem find1 (r : Int) (b : Nat) (x : Rg) (w : World) (hb : w.cell? ⟨b, 0, none⟩ = some (.int .i64 r)) (hlt : b < w.heap.size) :
    Calls Tryz.prog 221 #[encR x, .pointer (some ⟨b, 0, none⟩)] w fun e w' => e = .returned (.bool (inR r x)) ∧ Below w.heap.size w w' := by
  obtain ⟨f, t, v⟩ := x
  unfold inR
  simp only [encR]
  by_cases h1 : f ≤ r
  · have h2 : decide (f ≤ r) = true := decide_eq_true h1
    go_enter Tryz.func221, Tryz.ntmps221
    go_wp2_with fail
    go_ret
    exact ⟨ret_bool (by simp [h1]), by go_grown⟩
  · have h2 : decide (f ≤ r) = false := decide_eq_false h1
    go_enter Tryz.func221, Tryz.ntmps221
    go_wp2_with fail
    go_ret
    exact ⟨ret_bool (by simp), by go_grown⟩

set_option maxHeartbeats 1000000 in
theorem ranges_find (R : Nat) (ro : Nat) (A : Option Addr) (n c : Nat) (l : List Rg) (r : Int) (w : World) (hR : w.cell? ⟨R, ro, none⟩ = some (.slice A n c)) (hRl : R < w.heap.size) (hx : Rgs w w.heap.size A n l) (hn : n ≤ 1000000) :
    Calls Tryz.prog 206 #[.pointer (some ⟨R, ro, none⟩), .int .i64 r] w fun e w' => e = .returned (.tuple #[.int .i64 ((findR l r).getD 0), .bool (findR l r).isSome]) ∧ Below w.heap.size w w' := by
  have hi := fun (W : World) (hW : Below w.heap.size w W) (b : Nat) (hb : b < W.heap.size) (hc : W.cell? ⟨b, 0, none⟩ = some (.int .i64 r)) =>
    indexFunc_rg (p := inR r) (lb := #[.pointer (some ⟨b, 0, none⟩)]) A n c l W (enters_of Tryz.func221 (by kernel_rfl) rfl) ((hx.below hW).more hW.size) (fun x W' hW' => find1 r b x W' ((cellOf hW' hb).trans hc) (Nat.lt_of_lt_of_le hb hW'.size)) hn
  have Hi := Lib.hid hi
  have hlen := hx.len
  rcases firstB_spec (inR r) l with ⟨h1, h2⟩ | ⟨k, hk, h1, h2, h3⟩
  · rw [findR_none h2]
    rw [h1] at Hi
    clear hi hx hlen h1 h2
    go_enter Tryz.func206, Tryz.ntmps206
    go_wp2_with fail
    refine (Hi.out _ (by go_grown) _ (by simp) (by simp)).mono ?_
    rintro e w1 ⟨rfl, hb1⟩
    go_wp2_with fail
    go_ret2
    exact ⟨rfl, Below.trans (by go_grown) (hb1.mono (by simp))⟩
  · obtain ⟨b, o, rfl, hb, hc⟩ := hx.at_ (by omega)
    have u2 := (hc k hk).2.2
    rw [findR_hit hk h2 h3]
    generalize l[k].v = v at *
    rw [h1] at Hi
    have hkn : k < n := by omega
    clear hi hx hlen h1 h2 h3 hc hk
    go_enter Tryz.func206, Tryz.ntmps206
    go_wp2_with fail
    refine (Hi.out _ (by go_grown) _ (by simp) (by simp)).mono ?_
    rintro e w1 ⟨rfl, hb1⟩
    have hbw : Below w.heap.size w w1 := Below.trans (by go_grown) (hb1.mono (by simp))
    have d0 := (cellOf hbw hRl).trans hR
    have d2 := (cellOf hbw hb).trans u2
    go_wp2_with fail
    go_ret2
    exact ⟨rfl, hbw⟩

end Go.Vir


namespace Go.Vir
open Go Go.RowKit Go.Proofs Go.Shelf
attribute [local go_sem] Oper.semAt_some

set_option maxHeartbeats 1000000 in
theorem span_lap (x y : Rg) (w : World) : Calls Tryz.prog 201 #[encR x, encR y] w fun e w' => e = .returned (.bool (lapR x y)) ∧ Below w.heap.size w w' := by
  obtain ⟨f, t, v⟩ := x
  obtain ⟨f2, t2, v2⟩ := y
  unfold lapR
  simp only [encR]
  by_cases h1 : f ≤ t2
  · have h2 : decide (f ≤ t2) = true := decide_eq_true h1
    go_enter Tryz.func201, Tryz.ntmps201
    go_wp2_with fail
    go_ret
    exact ⟨ret_bool (by simp [h1]), by go_grown⟩
  · have h2 : decide (f ≤ t2) = false := decide_eq_false h1
    go_enter Tryz.func201, Tryz.ntmps201
    go_wp2_with fail
    go_ret
    exact ⟨ret_bool (by simp), by go_grown⟩

theorem sorted21 (x y : Rg) (b : Nat) (w : World) (hb : w.heap[b]? = some (.cells #[.int .i64 x.f, .int .i64 x.t, .int .i64 x.v] 139 (0, 0))) :
    Calls Tryz.prog 200 #[encR y, .pointer (some ⟨b, 0, none⟩)] w fun e w' => e = .returned (.bool (lapR x y)) ∧ Below w.heap.size w w' := by
  have hl := fun W => span_lap x y W
  have u0 : w.cell? ⟨b, 0, none⟩ = some (.int .i64 x.f) := cell_blk hb 0
  have u1 : w.cell? ⟨b, 1, none⟩ = some (.int .i64 x.t) := cell_blk hb 1
  have u2 : w.cell? ⟨b, 2, none⟩ = some (.int .i64 x.v) := cell_blk hb 2
  have hbl : b < w.heap.size := (Array.getElem?_eq_some_iff.1 hb).1
  generalize lapR x y = V at *
  obtain ⟨f, t, v⟩ := x
  obtain ⟨f2, t2, v2⟩ := y
  simp only [encR] at *
  have Hl := Lib.hid hl
  clear hl hb
  go_enter Tryz.func200, Tryz.ntmps200
  go_wp2_with fail
  refine (Hl.out _).mono ?_
  rintro e w1 ⟨rfl, hb1⟩
  go_wp2_with fail
  go_ret
  exact ⟨rfl, Below.trans (by go_grown) (hb1.mono (by simp))⟩

theorem sorted1 (i : Nat) (x : Rg) (w : World) (h : oneR x = true) :
    Calls Tryz.prog 198 #[.int .i64 (i : Int), encR x] w fun e w' => e = .returned (.bool false) ∧ Below w.heap.size w w' := by
  have hl := fun W => span_isOne x W h
  obtain ⟨f, t, v⟩ := x
  simp only [encR] at *
  have Hl := Lib.hid hl
  clear hl h
  go_enter Tryz.func198, Tryz.ntmps198
  go_wp2_with fail
  refine (Hl.out _).mono ?_
  rintro e w1 ⟨rfl, hb1⟩
  go_wp2_with fail
  go_ret
  exact ⟨rfl, Below.trans (by go_grown) (hb1.mono (by simp))⟩

set_option maxHeartbeats 1000000 in
theorem sorted2 (i : Nat) (x : Rg) (A : Option Addr) (n c : Nat) (l : List Rg) (b : Nat) (w : World) (hx : Rgs w w.heap.size A n l) (hn : n ≤ 1000000) (hc : n ≤ c) (hi : i < n) (hb : w.cell? ⟨b, 0, none⟩ = some (.slice A n c)) (hbl : b < w.heap.size) (hno : (l.take i).any (lapR x) = false) :
    Calls Tryz.prog 199 #[.int .i64 (i : Int), encR x, .pointer (some ⟨b, 0, none⟩)] w fun e w' => e = .returned (.bool false) ∧ Below w.heap.size w w' := by
  have hw : Below w.heap.size w (w.alloc (.cells #[.int .i64 x.f, .int .i64 x.t, .int .i64 x.v] 139)) := by go_grown
  have hcon := containsFunc_rg (p := lapR x) (lb := #[.pointer (some ⟨w.heap.size, 0, none⟩)]) A i i (l.take i) (w.alloc (.cells #[.int .i64 x.f, .int .i64 x.t, .int .i64 x.v] 139)) (enters_of Tryz.func200 (by kernel_rfl) rfl)
    (((hx.take i (by omega)).below hw).more hw.size) (fun y W hW => sorted21 x y w.heap.size W ((hW.block _ (by simp)).trans (heap_new rfl))) (by omega)
  rw [hno] at hcon
  obtain ⟨f, t, v⟩ := x
  simp only [encR] at *
  have h1 : decide ((c : Int) < (i : Int)) = false := decide_eq_false (by omega)
  have h2 : i ≤ c := by omega
  have Hcon := Lib.hid hcon
  clear hcon hw hno hx
  go_enter Tryz.func199, Tryz.ntmps199
  go_wp2_with fail
  refine Hcon.out.mono ?_
  rintro e w1 ⟨rfl, hb1⟩
  go_wp2_with fail
  go_ret
  exact ⟨rfl, Below.trans (by go_grown) (hb1.mono (by simp))⟩

set_option maxHeartbeats 1000000 in
theorem span_first {g : Nat} {lb : Array Value} (A : Option Addr) (n c : Nat) (l : List Rg) (w : World) (eg : ∀ args w, (callFunc g args).run Tryz.prog w = .ok (.enter g args) w) (hx : Rgs w w.heap.size A n l) (hn : n ≤ 1000000)
    (hs : ∀ (i : Nat) (h : i < l.length) (W : World), Below w.heap.size w W → Calls Tryz.prog g (#[.int .i64 (i : Int), encR l[i]] ++ lb) W fun e W' => e = .returned (.bool false) ∧ Below W.heap.size W W') :
    Calls Tryz.prog 197 #[.func (.func g) #[] lb, .slice A n c] w fun e w' => e = .returned (.int .i64 (-1)) ∧ Below w.heap.size w w' := by
  have hlen := hx.len
  have Hlen := Lib.hid hlen
  have Hs := Lib.hid hs
  clear hlen hs
  go_enter Tryz.func197, Tryz.ntmps197
  go_wp2_with fail
  go_loopw [5, 6, 9] (fun _ _ i wr => ∃ (k : Nat), k ≤ n ∧ i = .int .i64 (k : Int) ∧ Below w.heap.size w wr) (fun _ _ i _ => n - (RowKit.intOf i).toNat)
  case atStart => exact ⟨0, Nat.zero_le _, rfl, Below.refl _ _⟩
  case round =>
    obtain ⟨k, hk, rfl, hbr⟩ := hrel
    rcases Nat.lt_or_ge k n with hlt | hge
    · obtain ⟨b, o, rfl, hb, hc⟩ := hx.at_ (by omega)
      have hkl : k < l.length := by rw [Hlen.out]; exact hlt
      have u0 := (cellOf hbr hb).trans (hc k hkl).1
      have u1 := (cellOf hbr hb).trans (hc k hkl).2.1
      have u2 := (cellOf hbr hb).trans (hc k hkl).2.2
      have h1 := Hs.out k hkl (wr.alloc (.cells #[.int .i64 l[k].f, .int .i64 l[k].t, .int .i64 l[k].v] 139)) (hbr.alloc hbr.size _)
      generalize l[k] = x at *
      obtain ⟨x1, x2, x3⟩ := x
      simp only [encR] at u0 u1 u2 h1
      have H1 := Lib.hid h1
      clear h1 hc
      go_wp2_with fail
      refine H1.out.mono ?_
      rintro e w5 ⟨rfl, hb5⟩
      have hb6 : Below w.heap.size w w5 := (hbr.alloc hbr.size _).trans (hb5.mono (by simp; have := hbr.size; omega))
      go_wp2_with fail
      go_roundw
      case rel => exact ⟨k + 1, by omega, by go_num, hb6⟩
      case measure => simp [RowKit.intOf]; omega
    · go_wp2_with fail
      go_ret
      exact ⟨rfl, hbr⟩
end Go.Vir


namespace Go.Vir
open Go

def segL : List Int → List (Int × Int)
  | [] => []
  | n :: t => (n, (t.head?.map (· - 1)).getD 1114111) :: segL t
def brkX : Int → List Rg → List Int
  | p, [] => if p = 1114112 then [] else [p]
  | p, x :: l => if p = x.f then p :: brkX (x.t + 1) l else p :: x.f :: brkX (x.t + 1) l
theorem brk_cons (p : Int) (x : Rg) (l : List Rg) : brkX p (x :: l) = if p = x.f then p :: brkX (x.t + 1) l else p :: x.f :: brkX (x.t + 1) l := by rw [brkX]
def saidL (L : List Rg) (l : List (Int × Int)) : List Rg := l.filterMap fun p => (findR L p.1).map fun v => { f := p.1, t := p.2, v := v }

theorem rise_ints_ext : ∀ {l m : List Int}, l.Pairwise (· < ·) → m.Pairwise (· < ·) → (∀ x, x ∈ l ↔ x ∈ m) → l = m
  | [], [], _, _, _ => rfl
  | [], y :: m, _, _, h => by have := (h y).2 (List.mem_cons_self ..); cases this
  | x :: l, [], _, _, h => by have := (h x).1 (List.mem_cons_self ..); cases this
  | x :: l, y :: m, hl, hm, h => by
    obtain ⟨hl1, hl2⟩ := List.pairwise_cons.1 hl
    obtain ⟨hm1, hm2⟩ := List.pairwise_cons.1 hm
    have hxy : x = y := by
      rcases List.mem_cons.1 ((h x).1 (List.mem_cons_self ..)) with e | hx
      · exact e
      · rcases List.mem_cons.1 ((h y).2 (List.mem_cons_self ..)) with e | hy
        · exact e.symm
        · have h1 := hm1 x hx
          have h2 := hl1 y hy
          omega
    subst hxy
    have : l = m := rise_ints_ext hl2 hm2 (fun z => ?_)
    · rw [this]
    · have hz := h z
      constructor
      · intro hzl
        rcases List.mem_cons.1 (hz.1 (List.mem_cons_of_mem _ hzl)) with e | e
        · have := hl1 z hzl; omega
        · exact e
      · intro hzm
        rcases List.mem_cons.1 (hz.2 (List.mem_cons_of_mem _ hzm)) with e | e
        · have := hm1 z hzm; omega
        · exact e

theorem brk_mem : ∀ {l : List Rg} {p : Int}, riseR (p - 1) l = true → ∀ y, y ∈ brkX p l ↔ y ≠ 1114112 ∧ (y = p ∨ ∃ x ∈ l, y = x.f ∨ y = x.t + 1)
  | [], p, _, y => by
    unfold brkX
    split
    · rename_i h
      constructor
      · intro hy; cases hy
      · rintro ⟨h1, h2 | ⟨x, hx, _⟩⟩
        · omega
        · cases hx
    · rename_i h
      simp only [List.mem_singleton, List.not_mem_nil, false_and, exists_false, or_false]
      constructor
      · rintro rfl; exact ⟨h, rfl⟩
      · exact fun hh => hh.2
  | x :: l, p, h, y => by
    simp only [riseR, Bool.and_eq_true, decide_eq_true_eq] at h
    have ho := oneR_iff.1 h.1
    have ih := brk_mem (l := l) (p := x.t + 1) (by rw [show x.t + 1 - 1 = x.t by omega]; exact h.2.2) y
    have hgo : y ∈ brkX p (x :: l) ↔ y = p ∨ y = x.f ∨ y ∈ brkX (x.t + 1) l := by
      rw [brk_cons]
      split
      · rename_i e
        rw [List.mem_cons]
        constructor
        · rintro (h | h)
          · exact .inl h
          · exact .inr (.inr h)
        · rintro (h | h | h)
          · exact .inl h
          · exact .inl (by rw [h, e])
          · exact .inr h
      · rw [List.mem_cons, List.mem_cons]
    rw [hgo, ih]
    constructor
    · rintro (rfl | rfl | ⟨h1, h2⟩)
      · exact ⟨by omega, .inl rfl⟩
      · exact ⟨by omega, .inr ⟨x, List.mem_cons_self .., .inl rfl⟩⟩
      · refine ⟨h1, ?_⟩
        rcases h2 with rfl | ⟨z, hz, hh⟩
        · exact .inr ⟨x, List.mem_cons_self .., .inr rfl⟩
        · exact .inr ⟨z, List.mem_cons_of_mem _ hz, hh⟩
    · rintro ⟨h1, rfl | ⟨z, hz, hh⟩⟩
      · exact .inl rfl
      · rcases List.mem_cons.1 hz with rfl | hz
        · rcases hh with rfl | rfl
          · exact .inr (.inl rfl)
          · exact .inr (.inr ⟨h1, .inl rfl⟩)
        · exact .inr (.inr ⟨h1, .inr ⟨z, hz, hh⟩⟩)
theorem brk_ge : ∀ {l : List Rg} {p : Int}, riseR (p - 1) l = true → ∀ y ∈ brkX p l, p ≤ y := by
  intro l p h y hy
  obtain ⟨_, h2⟩ := (brk_mem h y).1 hy
  rcases h2 with rfl | ⟨x, hx, hh⟩
  · omega
  · have h1 := rise_one h x hx
    have h3 := oneR_iff.1 h1.1
    rcases hh with rfl | rfl <;> omega
theorem brk_rise : ∀ {l : List Rg} {p : Int}, riseR (p - 1) l = true → (brkX p l).Pairwise (· < ·)
  | [], p, _ => by unfold brkX; split <;> simp
  | x :: l, p, h => by
    simp only [riseR, Bool.and_eq_true, decide_eq_true_eq] at h
    have ho := oneR_iff.1 h.1
    have hr : riseR (x.t + 1 - 1) l = true := by rw [show x.t + 1 - 1 = x.t by omega]; exact h.2.2
    have ih := brk_rise hr
    have hge := brk_ge hr
    rw [brk_cons]
    split
    · rename_i e
      exact List.pairwise_cons.2 ⟨fun y hy => by have := hge y hy; omega, ih⟩
    · refine List.pairwise_cons.2 ⟨fun y hy => ?_, List.pairwise_cons.2 ⟨fun y hy => by have := hge y hy; omega, ih⟩⟩
      rcases List.mem_cons.1 hy with rfl | hy
      · omega
      · have := hge y hy; omega
theorem brk_head {l : List Rg} {p : Int} (h : riseR (p - 1) l = true) : ((brkX p l).head?.map (· - 1)).getD 1114111 = p - 1 := by
  cases l with
  | nil =>
    unfold brkX
    split
    · rename_i e; subst e; rfl
    · rfl
  | cons x l => rw [brk_cons]; split <;> rfl
theorem seg_said (L : List Rg) (hL : riseR (-1) L = true) : ∀ (l dn : List Rg) (p : Int), L = dn ++ l → (∀ x ∈ dn, x.t < p) → riseR (p - 1) l = true → saidL L (segL (brkX p l)) = l
  | [], dn, p, e, hd, _ => by
    unfold brkX
    split
    · rfl
    · have : findR L p = none := find_none.2 fun x hx => by
        rw [e, List.append_nil] at hx
        have := hd x hx; omega
      simp [segL, saidL, this]
  | x :: l, dn, p, e, hd, h => by
    simp only [riseR, Bool.and_eq_true, decide_eq_true_eq] at h
    have ho := oneR_iff.1 h.1
    have hr : riseR (x.t + 1 - 1) l = true := by rw [show x.t + 1 - 1 = x.t by omega]; exact h.2.2
    have ih := seg_said L hL l (dn ++ [x]) (x.t + 1) (by rw [e]; simp) (fun y hy => by
      rcases List.mem_append.1 hy with hy | hy
      · have := hd y hy; omega
      · simp only [List.mem_singleton] at hy; subst hy; omega) hr
    have hh := brk_head hr
    have hx : findR L x.f = some x.v := (find_rise hL).2 ⟨x, by rw [e]; simp, by omega, by omega, rfl⟩
    have hone : saidL L (segL (x.f :: brkX (x.t + 1) l)) = x :: l := by
      unfold segL
      rw [hh]
      unfold saidL at ih ⊢
      rw [List.filterMap_cons]
      simp only [hx, Option.map_some]
      rw [ih]
      have : ({ f := x.f, t := x.t + 1 - 1, v := x.v } : Rg) = x := by
        rw [show x.t + 1 - 1 = x.t by omega]
      rw [this]
    rw [brk_cons]
    split
    · rename_i e2; rw [e2]; exact hone
    · rename_i e2
      have hn : findR L p = none := find_none.2 fun y hy => by
        rw [e] at hy
        rcases List.mem_append.1 hy with hy | hy
        · have := hd y hy; omega
        · rcases List.mem_cons.1 hy with rfl | hy
          · omega
          · have := (rise_one h.2.2 y hy).2; omega
      rw [segL]
      unfold saidL at hone ⊢
      rw [List.filterMap_cons]
      simp only [hn, Option.map_none]
      exact hone
theorem turns_said {L : List Rg} (h : riseR (-1) L = true) {ks : List Int} (hs : ks.Pairwise (· < ·)) (hm : ∀ y, y ∈ ks ↔ y ≠ 1114112 ∧ (y = 0 ∨ ∃ x ∈ L, y = x.f ∨ y = x.t + 1)) : saidL L (segL ks) = L := by
  have hr : riseR (0 - 1) L = true := h
  have : ks = brkX 0 L := rise_ints_ext hs (brk_rise hr) (fun y => (hm y).trans (brk_mem hr y).symm)
  rw [this]
  exact seg_said L h L [] 0 rfl (by simp) hr
end Go.Vir


namespace Go.Vir
open Go Go.Lib

def evP (ss : List (List UInt8)) (k : Nat) (loose : Bool) : List RecV → List (RecV × Option Int)
  | [] => []
  | x :: l => match saysB ss k x with
    | none => if loose then evP ss k loose l else (x, none) :: evP ss k loose l
    | some v => (x, some v) :: evP ss k loose l
theorem evP_cons (ss : List (List UInt8)) (k : Nat) (loose : Bool) (x : RecV) (l : List RecV) : evP ss k loose (x :: l) = match saysB ss k x with
    | none => if loose then evP ss k loose l else (x, none) :: evP ss k loose l
    | some v => (x, some v) :: evP ss k loose l := by rw [evP]
def readsE : List (RecV × Option Int) → List Rg → List Rg ⊕ (Int × Int)
  | [], out => .inl out
  | (x, none) :: _, _ => .inr (x.line, 40)
  | (x, some v) :: es, out => if out.any (lapR (rgOf x v)) then .inr (x.line, 30) else readsE es (out ++ [rgOf x v])
theorem readsE_none (x : RecV) (es : List (RecV × Option Int)) (out : List Rg) : readsE ((x, none) :: es) out = .inr (x.line, 40) := by rw [readsE]
theorem readsE_some (x : RecV) (v : Int) (es : List (RecV × Option Int)) (out : List Rg) : readsE ((x, some v) :: es) out = if out.any (lapR (rgOf x v)) then .inr (x.line, 30) else readsE es (out ++ [rgOf x v]) := by rw [readsE]
theorem reads_evs (ss : List (List UInt8)) (k : Nat) (loose : Bool) : ∀ (l : List RecV) (out : List Rg), readsB ss k loose l out = readsE (evP ss k loose l) out
  | [], _ => rfl
  | x :: l, out => by
    rw [readsB_cons, evP_cons]
    cases saysB ss k x with
    | none =>
      cases loose with
      | true => simp only [if_true]; exact reads_evs ss k true l out
      | false => simp only [Bool.false_eq_true, if_false, readsE_none]
    | some v =>
      simp only [readsE_some]
      split
      · rfl
      · exact reads_evs ss k loose l _
theorem laps_eq {y : Rg} (hy : y.f ≤ y.t) (x : Rg) : (decide (x = y) || (decide (x.f ≤ y.t) && decide (y.f ≤ x.t))) = lapR y x := by
  rw [Bool.eq_iff_iff]
  simp only [Bool.or_eq_true, Bool.and_eq_true, decide_eq_true_eq, lapR_iff]
  constructor
  · rintro (rfl | ⟨h1, h2⟩)
    · exact ⟨hy, hy⟩
    · exact ⟨h2, h1⟩
  · rintro ⟨h1, h2⟩
    exact .inr ⟨h2, h1⟩
theorem tight_said {m : List Rg} (h : riseR (-1) m = true) {ks : List Int} (hs : ks.Pairwise (· < ·)) (hm : ∀ y, y ∈ ks ↔ y ≠ 1114112 ∧ (y = 0 ∨ ∃ x ∈ m, y = x.f ∨ y = x.t + 1)) : (saidL m (segL ks)).foldl addR [] = tightR m := by
  rw [turns_said h hs hm]; rfl
end Go.Vir


namespace Go.Vir
open Go Go.RowKit Go.Proofs Go.Shelf
attribute [local go_sem] Oper.semAt_some

theorem look_names {w : World} {r ck : Nat} {es : Array MapEntry} {ss : List (List UInt8)} (x : List UInt8) (hr : w.heap[r]? = some (.map es ck)) (ha : Asc es (kvOf ss 0)) :
    (Instr.lookup 202 (.map (some r)) (.string ⟨x.toArray⟩) true).run Tryz.prog w = .ok (.tuple #[.int .i64 ((valB x ss 0).getD 0), .bool (valB x ss 0).isSome]) w := by
  have h := run_look_kv (P := Tryz.prog) (k := x) true Tryz.underlying202 Tryz.underlying9 (Tryz.zeroValue3 w) hr ha
  have h1 := look_val x (kvOf ss 0) 0
  rw [valKV_kvOf] at h1
  have h2 : (lookKV x (kvOf ss 0) 0).isSome = (valB x ss 0).isSome := by rw [← h1]; cases lookKV x (kvOf ss 0) 0 <;> rfl
  rw [h1, h2] at h
  exact h

theorem names_value (A : Option Addr) (n c r ck : Nat) (es : Array MapEntry) (ss : List (List UInt8)) (x : List UInt8) (w : World) (hr : w.heap[r]? = some (.map es ck)) (ha : Asc es (kvOf ss 0)) :
    Calls Tryz.prog 175 #[.agg #[.slice A n c, .map (some r)], .string ⟨x.toArray⟩] w fun e w' => e = .returned (.tuple #[.int .i64 ((valB x ss 0).getD 0), .bool (valB x ss 0).isSome]) ∧ Below w.heap.size w w' := by
  have hrl : r < w.heap.size := (Array.getElem?_eq_some_iff.1 hr).1
  have hlk := look_names x (w := w.alloc (.cells #[.slice A n c, .map (some r)] 204)) ((heap_old hrl).trans hr) ha
  generalize (valB x ss 0).getD 0 = v at *
  generalize (valB x ss 0).isSome = o at *
  clear hr ha
  go_enter Tryz.func175, Tryz.ntmps175
  go_wp2_with fail
  go_ret2
  exact ⟨rfl, by go_grown⟩

set_option maxHeartbeats 1000000 in
theorem laps1 (y x : Rg) (b : Nat) (w : World) (hy : y.f ≤ y.t) (hb : w.heap[b]? = some (.cells #[.int .i64 y.f, .int .i64 y.t, .int .i64 y.v] 139 (0, 0))) :
    Calls Tryz.prog 195 #[encR x, .pointer (some ⟨b, 0, none⟩)] w fun e w' => e = .returned (.bool (lapR y x)) ∧ Below w.heap.size w w' := by
  have hq := fun w => rg_eql x y w
  have u0 : w.cell? ⟨b, 0, none⟩ = some (.int .i64 y.f) := cell_blk hb 0
  have u1 : w.cell? ⟨b, 1, none⟩ = some (.int .i64 y.t) := cell_blk hb 1
  have u2 : w.cell? ⟨b, 2, none⟩ = some (.int .i64 y.v) := cell_blk hb 2
  have hbl : b < w.heap.size := (Array.getElem?_eq_some_iff.1 hb).1
  rw [← laps_eq hy x]
  obtain ⟨f, t, v⟩ := x
  obtain ⟨f2, t2, v2⟩ := y
  simp only [encR] at *
  clear hb hy
  rcases hE : decide (({ f := f, t := t, v := v } : Rg) = { f := f2, t := t2, v := v2 }) with _ | _
  · rw [hE] at hq
    by_cases h1 : f ≤ t2
    · have h2 : decide (f ≤ t2) = true := decide_eq_true h1
      clear hE
      go_enter Tryz.func195, Tryz.ntmps195
      go_wp2_with fail
      go_ret
      exact ⟨ret_bool (by simp [h1]), by go_grown⟩
    · have h2 : decide (f ≤ t2) = false := decide_eq_false h1
      clear hE
      go_enter Tryz.func195, Tryz.ntmps195
      go_wp2_with fail
      go_ret
      exact ⟨ret_bool (by simp), by go_grown⟩
  · rw [hE] at hq
    clear hE
    go_enter Tryz.func195, Tryz.ntmps195
    go_wp2_with fail
    go_ret
    exact ⟨ret_bool (by simp), by go_grown⟩

theorem reader_laps (R : Nat) (A : Option Addr) (n c : Nat) (l : List Rg) (y : Rg) (w : World) (hy : y.f ≤ y.t) (hR : w.cell? ⟨R, 4, none⟩ = some (.slice A n c)) (hRl : R < w.heap.size) (hx : Rgs w w.heap.size A n l) (hn : n ≤ 1000000) :
    Calls Tryz.prog 176 #[.pointer (some ⟨R, 0, none⟩), .agg #[.int .i64 y.f, .int .i64 y.t, .int .i64 y.v]] w fun e w' => e = .returned (.bool (l.any (lapR y))) ∧ Below w.heap.size w w' := by
  have hw : Below w.heap.size w (w.alloc (.cells #[.int .i64 y.f, .int .i64 y.t, .int .i64 y.v] 139)) := by go_grown
  have hcon := containsFunc_rg (p := lapR y) (lb := #[.pointer (some ⟨w.heap.size, 0, none⟩)]) A n c l (w.alloc (.cells #[.int .i64 y.f, .int .i64 y.t, .int .i64 y.v] 139)) (enters_of Tryz.func195 (by kernel_rfl) rfl)
    ((hx.below hw).more hw.size) (fun x W hW => laps1 y x w.heap.size W hy ((hW.block _ (by simp)).trans (heap_new rfl))) hn
  generalize l.any (lapR y) = V at *
  obtain ⟨f, t, v⟩ := y
  simp only at *
  have Hcon := Lib.hid hcon
  clear hcon hw hx hy
  go_enter Tryz.func176, Tryz.ntmps176
  go_wp2_with fail
  refine Hcon.out.mono ?_
  rintro e w1 ⟨rfl, hb1⟩
  go_wp2_with fail
  go_ret
  exact ⟨rfl, Below.trans (by go_grown) (hb1.mono (by simp))⟩
end Go.Vir


namespace Go.Vir
open Go Go.RowKit Go.Proofs Go.Shelf
attribute [local go_sem] Oper.semAt_some

def Kp (R : Nat) (A B : World) : Prop := ∀ (k : Nat) (o : Obj), k < A.heap.size → k ≠ R → A.heap[k]? = some o → isData o = true → B.heap[k]? = some o
section
variable {R : Nat} {A B C : World}
theorem Kp.refl (R : Nat) (A : World) : Kp R A A := fun _ _ _ _ h _ => h
theorem Kp.below (h : Kp R A B) (hs : A.heap.size ≤ B.heap.size) (hb : Below B.heap.size B C) : Kp R A C := fun k o hk hne ho hd => (hb.block k (by omega)).trans (h k o hk hne ho hd)
theorem Kp.keep {B0 F : Nat} (h : Kp R A B) (hF : A.heap.size ≤ F) (hk : KeepE (fun k => k = R) B0 F B C) : Kp R A C := fun k o hlt hne ho hd => hk.data k o (by omega) hne (h k o hlt hne ho hd) hd
theorem Kp.cell (h : Kp R A B) {b o : Nat} {v : Value} (hb : b < A.heap.size) (hne : b ≠ R) (hc : A.cell? ⟨b, o, none⟩ = some v) : B.cell? ⟨b, o, none⟩ = some v := by
  rcases hh : A.heap[b]? with _ | ob
  · simp [World.cell?, hh] at hc
  · cases ob with
    | cells cs t m => exact (World.cell?_of_block (a := ⟨b, o, none⟩) ((h b _ hb hne hh rfl).trans hh.symm)).trans hc
    | _ => simp [World.cell?, hh] at hc
end
def rdCs (A : Option Addr) (n c r : Nat) (k : Int) (loose : Bool) (Ao : Option Addr) (no co : Nat) : Array Value := #[.slice A n c, .map (some r), .int .i64 k, .bool loose, .slice Ao no co]
theorem rec_ne {W : World} {B b o R n c r no co : Nat} {A Ao : Option Addr} {k : Int} {loose : Bool} {x : RecV} (h : RecAt W B b o x) (hR : W.heap[R]? = some (.cells (rdCs A n c r k loose Ao no co) 207 (0, 0))) : b ≠ R := by
  rintro rfl
  obtain ⟨_, _, _, h0, h1, _⟩ := h
  rw [cell_blk hR] at h0 h1
  match o, h0, h1 with
  | 0, h0, _ => simp [rdCs] at h0
  | 1, h0, _ => simp [rdCs] at h0
  | 2, _, h1 => simp [rdCs] at h1
  | 3, h0, _ => simp [rdCs] at h0
  | 4, h0, _ => simp [rdCs] at h0
  | o + 5, h0, _ => simp [rdCs] at h0
theorem str_ne {W : World} {b o R n c r no co : Nat} {A Ao : Option Addr} {k : Int} {loose : Bool} {s : ByteArray} (h0 : W.cell? ⟨b, o, none⟩ = some (.string s)) (hR : W.heap[R]? = some (.cells (rdCs A n c r k loose Ao no co) 207 (0, 0))) : b ≠ R := by
  rintro rfl
  rw [cell_blk hR] at h0
  match o, h0 with
  | 0, h0 => simp [rdCs] at h0
  | 1, h0 => simp [rdCs] at h0
  | 2, h0 => simp [rdCs] at h0
  | 3, h0 => simp [rdCs] at h0
  | 4, h0 => simp [rdCs] at h0
  | o + 5, h0 => simp [rdCs] at h0

def errP (EF : Value) (line why : Int) : Value := .iface 239 (.agg #[.int .i64 line, .int .i64 why, EF])
def evV (EF : Value) (out : List Rg) : RecV × Option Int → Array Value
  | (x, none) => #[encR { f := x.f, t := x.t, v := 0 }, errP EF x.line 40]
  | (x, some v) => #[encR (rgOf x v), if out.any (lapR (rgOf x v)) then errP EF x.line 30 else .nilIface]
def outE (E : List (RecV × Option Int)) (i : Nat) : List Rg := (E.take i).filterMap fun e => e.2.map (rgOf e.1)
def EvP (E : List (RecV × Option Int)) (EF : Value) (i : Nat) (xs : Array Value) : Prop := ∃ e, E[i]? = some e ∧ xs = evV EF (outE E i) e
def RdP (E : List (RecV × Option Int)) (R : Nat) (A : Option Addr) (n c r : Nat) (k : Int) (loose : Bool) (i : Nat) (W : World) : Prop :=
  ∃ Ao no co, W.heap[R]? = some (.cells (rdCs A n c r k loose Ao no co) 207 (0, 0)) ∧ Rgs W W.heap.size Ao no (outE E i) ∧ no ≤ 1000

theorem says_make (R : Nat) (A : Option Addr) (n c : Nat) (w : World) :
    Calls Tryz.prog 156 #[.pointer (some ⟨R, 0, none⟩), .slice A n c] w fun e w' =>
      e = .returned (.func (.func 174) #[] #[.pointer (some ⟨w.heap.size + 1, 0, none⟩), .pointer (some ⟨w.heap.size, 0, none⟩)]) ∧
        (w.alloc (.cells #[.pointer (some ⟨R, 0, none⟩)] 201)).alloc (.cells #[.slice A n c] 83) = w' := by
  go_enter Tryz.func156, Tryz.ntmps156
  go_wp2
  go_ret
  exact ⟨rfl, rfl⟩
end Go.Vir

